/-
  Closed facts on the types and functions of this program: written by a program of this session (wip/tools/ty.py).
-/
import Derived.Test.YtohldionclgljaaGreatProg
import Derived.Test.YtohldionclgljaaGreatJ
namespace Go.Proofs.YtohldionclgljaaGreat
namespace Ty
open Go.J
theorem mixed : Tryz.prog.follows .mixedOrders = true := by kernel_rfl
theorem u2 : Tryz.prog.underlying 2 = some (.int .i64) := by kernel_rfl
theorem a2 : aggT Tryz.prog 2 = some false := by kernel_rfl
theorem s2 : sizeT Tryz.prog 2 = some 1 := by kernel_rfl
theorem b2 : bytesT Tryz.prog 2 = some 8 := by kernel_rfl
theorem z2 : zeroT Tryz.prog 2 = some (.int .i64 0) := by kernel_rfl
theorem u3 : Tryz.prog.underlying 3 = some (.int .i64) := by kernel_rfl
theorem a3 : aggT Tryz.prog 3 = some false := by kernel_rfl
theorem s3 : sizeT Tryz.prog 3 = some 1 := by kernel_rfl
theorem b3 : bytesT Tryz.prog 3 = some 8 := by kernel_rfl
theorem z3 : zeroT Tryz.prog 3 = some (.int .i64 0) := by kernel_rfl
theorem u4 : Tryz.prog.underlying 4 = some (.bool) := by kernel_rfl
theorem a4 : aggT Tryz.prog 4 = some false := by kernel_rfl
theorem s4 : sizeT Tryz.prog 4 = some 1 := by kernel_rfl
theorem b4 : bytesT Tryz.prog 4 = some 1 := by kernel_rfl
theorem z4 : zeroT Tryz.prog 4 = some (.bool false) := by kernel_rfl
theorem u5 : Tryz.prog.underlying 5 = some (.int .u8) := by kernel_rfl
theorem a5 : aggT Tryz.prog 5 = some false := by kernel_rfl
theorem s5 : sizeT Tryz.prog 5 = some 1 := by kernel_rfl
theorem b5 : bytesT Tryz.prog 5 = some 1 := by kernel_rfl
theorem z5 : zeroT Tryz.prog 5 = some (.int .u8 0) := by kernel_rfl
theorem u6 : Tryz.prog.underlying 6 = some (.int .u8) := by kernel_rfl
theorem a6 : aggT Tryz.prog 6 = some false := by kernel_rfl
theorem s6 : sizeT Tryz.prog 6 = some 1 := by kernel_rfl
theorem b6 : bytesT Tryz.prog 6 = some 1 := by kernel_rfl
theorem z6 : zeroT Tryz.prog 6 = some (.int .u8 0) := by kernel_rfl
theorem a7 : aggT Tryz.prog 7 = some true := by kernel_rfl
theorem s7 : sizeT Tryz.prog 7 = some 4 := by kernel_rfl
theorem b7 : bytesT Tryz.prog 7 = some 24 := by kernel_rfl
theorem z7 : zeroT Tryz.prog 7 = some (.agg ([.int .i64 0, .int .i64 0, .bool false, .int .u8 0] : List Value).toArray) := by kernel_rfl
theorem pl7 : placesT Tryz.prog 7 = some [(0, 1), (1, 1), (2, 1), (3, 1)] := by kernel_rfl
theorem fd7_0 : fieldT Tryz.prog 7 0 = some 0 := by kernel_rfl
theorem fd7_1 : fieldT Tryz.prog 7 1 = some 1 := by kernel_rfl
theorem fd7_2 : fieldT Tryz.prog 7 2 = some 2 := by kernel_rfl
theorem fd7_3 : fieldT Tryz.prog 7 3 = some 3 := by kernel_rfl
theorem a8 : aggT Tryz.prog 8 = some true := by kernel_rfl
theorem s8 : sizeT Tryz.prog 8 = some 4 := by kernel_rfl
theorem b8 : bytesT Tryz.prog 8 = some 24 := by kernel_rfl
theorem z8 : zeroT Tryz.prog 8 = some (.agg ([.int .i64 0, .int .i64 0, .bool false, .int .u8 0] : List Value).toArray) := by kernel_rfl
theorem pl8 : placesT Tryz.prog 8 = some [(0, 1), (1, 1), (2, 1), (3, 1)] := by kernel_rfl
theorem fd8_0 : fieldT Tryz.prog 8 0 = some 0 := by kernel_rfl
theorem fd8_1 : fieldT Tryz.prog 8 1 = some 1 := by kernel_rfl
theorem fd8_2 : fieldT Tryz.prog 8 2 = some 2 := by kernel_rfl
theorem fd8_3 : fieldT Tryz.prog 8 3 = some 3 := by kernel_rfl
theorem u9 : Tryz.prog.underlying 9 = some (.string) := by kernel_rfl
theorem a9 : aggT Tryz.prog 9 = some false := by kernel_rfl
theorem s9 : sizeT Tryz.prog 9 = some 1 := by kernel_rfl
theorem b9 : bytesT Tryz.prog 9 = some 16 := by kernel_rfl
theorem z9 : zeroT Tryz.prog 9 = some (.string ByteArray.empty) := by kernel_rfl
theorem u10 : Tryz.prog.underlying 10 = some (.string) := by kernel_rfl
theorem a10 : aggT Tryz.prog 10 = some false := by kernel_rfl
theorem s10 : sizeT Tryz.prog 10 = some 1 := by kernel_rfl
theorem b10 : bytesT Tryz.prog 10 = some 16 := by kernel_rfl
theorem z10 : zeroT Tryz.prog 10 = some (.string ByteArray.empty) := by kernel_rfl
theorem u11 : Tryz.prog.underlying 11 = some (.string) := by kernel_rfl
theorem a11 : aggT Tryz.prog 11 = some false := by kernel_rfl
theorem s11 : sizeT Tryz.prog 11 = some 1 := by kernel_rfl
theorem b11 : bytesT Tryz.prog 11 = some 16 := by kernel_rfl
theorem z11 : zeroT Tryz.prog 11 = some (.string ByteArray.empty) := by kernel_rfl
theorem u12 : Tryz.prog.underlying 12 = some (.int .u64) := by kernel_rfl
theorem a12 : aggT Tryz.prog 12 = some false := by kernel_rfl
theorem s12 : sizeT Tryz.prog 12 = some 1 := by kernel_rfl
theorem b12 : bytesT Tryz.prog 12 = some 8 := by kernel_rfl
theorem z12 : zeroT Tryz.prog 12 = some (.int .u64 0) := by kernel_rfl
theorem a13 : aggT Tryz.prog 13 = some true := by kernel_rfl
theorem s13 : sizeT Tryz.prog 13 = some 2 := by kernel_rfl
theorem b13 : bytesT Tryz.prog 13 = some 24 := by kernel_rfl
theorem z13 : zeroT Tryz.prog 13 = some (.agg ([.string ByteArray.empty, .int .u64 0] : List Value).toArray) := by kernel_rfl
theorem pl13 : placesT Tryz.prog 13 = some [(0, 1), (1, 1)] := by kernel_rfl
theorem fd13_0 : fieldT Tryz.prog 13 0 = some 0 := by kernel_rfl
theorem fd13_1 : fieldT Tryz.prog 13 1 = some 1 := by kernel_rfl
theorem a14 : aggT Tryz.prog 14 = some true := by kernel_rfl
theorem s14 : sizeT Tryz.prog 14 = some 2 := by kernel_rfl
theorem b14 : bytesT Tryz.prog 14 = some 24 := by kernel_rfl
theorem z14 : zeroT Tryz.prog 14 = some (.agg ([.string ByteArray.empty, .int .u64 0] : List Value).toArray) := by kernel_rfl
theorem pl14 : placesT Tryz.prog 14 = some [(0, 1), (1, 1)] := by kernel_rfl
theorem fd14_0 : fieldT Tryz.prog 14 0 = some 0 := by kernel_rfl
theorem fd14_1 : fieldT Tryz.prog 14 1 = some 1 := by kernel_rfl
theorem u15 : Tryz.prog.underlying 15 = some (.pointer 179) := by kernel_rfl
theorem a15 : aggT Tryz.prog 15 = some false := by kernel_rfl
theorem s15 : sizeT Tryz.prog 15 = some 1 := by kernel_rfl
theorem b15 : bytesT Tryz.prog 15 = some 8 := by kernel_rfl
theorem z15 : zeroT Tryz.prog 15 = some (.pointer none) := by kernel_rfl
theorem u16 : Tryz.prog.underlying 16 = some (.pointer 182) := by kernel_rfl
theorem a16 : aggT Tryz.prog 16 = some false := by kernel_rfl
theorem s16 : sizeT Tryz.prog 16 = some 1 := by kernel_rfl
theorem b16 : bytesT Tryz.prog 16 = some 8 := by kernel_rfl
theorem z16 : zeroT Tryz.prog 16 = some (.pointer none) := by kernel_rfl
theorem u17 : Tryz.prog.underlying 17 = some (.pointer 190) := by kernel_rfl
theorem a17 : aggT Tryz.prog 17 = some false := by kernel_rfl
theorem s17 : sizeT Tryz.prog 17 = some 1 := by kernel_rfl
theorem b17 : bytesT Tryz.prog 17 = some 8 := by kernel_rfl
theorem z17 : zeroT Tryz.prog 17 = some (.pointer none) := by kernel_rfl
theorem a18 : aggT Tryz.prog 18 = some true := by kernel_rfl
theorem s18 : sizeT Tryz.prog 18 = some 1 := by kernel_rfl
theorem b18 : bytesT Tryz.prog 18 = some 8 := by kernel_rfl
theorem z18 : zeroT Tryz.prog 18 = some (.agg ([.pointer none] : List Value).toArray) := by kernel_rfl
theorem pl18 : placesT Tryz.prog 18 = some [(0, 1)] := by kernel_rfl
theorem fd18_0 : fieldT Tryz.prog 18 0 = some 0 := by kernel_rfl
theorem a19 : aggT Tryz.prog 19 = some true := by kernel_rfl
theorem s19 : sizeT Tryz.prog 19 = some 1 := by kernel_rfl
theorem b19 : bytesT Tryz.prog 19 = some 8 := by kernel_rfl
theorem z19 : zeroT Tryz.prog 19 = some (.agg ([.pointer none] : List Value).toArray) := by kernel_rfl
theorem pl19 : placesT Tryz.prog 19 = some [(0, 1)] := by kernel_rfl
theorem fd19_0 : fieldT Tryz.prog 19 0 = some 0 := by kernel_rfl
theorem a20 : aggT Tryz.prog 20 = some false := by kernel_rfl
theorem s20 : sizeT Tryz.prog 20 = some 1 := by kernel_rfl
theorem b20 : bytesT Tryz.prog 20 = some 16 := by kernel_rfl
theorem z20 : zeroT Tryz.prog 20 = some (.nilIface) := by kernel_rfl
theorem u21 : Tryz.prog.underlying 21 = some (.int .i32) := by kernel_rfl
theorem a21 : aggT Tryz.prog 21 = some false := by kernel_rfl
theorem s21 : sizeT Tryz.prog 21 = some 1 := by kernel_rfl
theorem b21 : bytesT Tryz.prog 21 = some 4 := by kernel_rfl
theorem z21 : zeroT Tryz.prog 21 = some (.int .i32 0) := by kernel_rfl
theorem u22 : Tryz.prog.underlying 22 = some (.slice 33) := by kernel_rfl
theorem a22 : aggT Tryz.prog 22 = some false := by kernel_rfl
theorem s22 : sizeT Tryz.prog 22 = some 1 := by kernel_rfl
theorem b22 : bytesT Tryz.prog 22 = some 24 := by kernel_rfl
theorem z22 : zeroT Tryz.prog 22 = some (.slice none 0 0) := by kernel_rfl
theorem el22 : elemT Tryz.prog 22 = some 33 := by kernel_rfl
theorem u23 : Tryz.prog.underlying 23 = some (.array 16 5) := by kernel_rfl
theorem a23 : aggT Tryz.prog 23 = some true := by kernel_rfl
theorem s23 : sizeT Tryz.prog 23 = some 16 := by kernel_rfl
theorem b23 : bytesT Tryz.prog 23 = some 16 := by kernel_rfl
theorem z23 : zeroT Tryz.prog 23 = some (.agg (List.replicate 16 (.int .u8 0) : List Value).toArray) := by kernel_rfl
theorem ar23 : arrT Tryz.prog 23 = some (16, 5) := by kernel_rfl
theorem u24 : Tryz.prog.underlying 24 = some (.array 16 5) := by kernel_rfl
theorem a24 : aggT Tryz.prog 24 = some true := by kernel_rfl
theorem s24 : sizeT Tryz.prog 24 = some 16 := by kernel_rfl
theorem b24 : bytesT Tryz.prog 24 = some 16 := by kernel_rfl
theorem z24 : zeroT Tryz.prog 24 = some (.agg (List.replicate 16 (.int .u8 0) : List Value).toArray) := by kernel_rfl
theorem ar24 : arrT Tryz.prog 24 = some (16, 5) := by kernel_rfl
theorem u25 : Tryz.prog.underlying 25 = some (.array 2 24) := by kernel_rfl
theorem a25 : aggT Tryz.prog 25 = some true := by kernel_rfl
theorem s25 : sizeT Tryz.prog 25 = some 32 := by kernel_rfl
theorem b25 : bytesT Tryz.prog 25 = some 32 := by kernel_rfl
theorem z25 : zeroT Tryz.prog 25 = some (.agg (List.replicate 32 (.int .u8 0) : List Value).toArray) := by kernel_rfl
theorem ar25 : arrT Tryz.prog 25 = some (2, 24) := by kernel_rfl
theorem u26 : Tryz.prog.underlying 26 = some (.pointer 92) := by kernel_rfl
theorem a26 : aggT Tryz.prog 26 = some false := by kernel_rfl
theorem s26 : sizeT Tryz.prog 26 = some 1 := by kernel_rfl
theorem b26 : bytesT Tryz.prog 26 = some 8 := by kernel_rfl
theorem z26 : zeroT Tryz.prog 26 = some (.pointer none) := by kernel_rfl
theorem u27 : Tryz.prog.underlying 27 = some (.pointer 51) := by kernel_rfl
theorem a27 : aggT Tryz.prog 27 = some false := by kernel_rfl
theorem s27 : sizeT Tryz.prog 27 = some 1 := by kernel_rfl
theorem b27 : bytesT Tryz.prog 27 = some 8 := by kernel_rfl
theorem z27 : zeroT Tryz.prog 27 = some (.pointer none) := by kernel_rfl
theorem a30 : aggT Tryz.prog 30 = some true := by kernel_rfl
theorem s30 : sizeT Tryz.prog 30 = some 17 := by kernel_rfl
theorem b30 : bytesT Tryz.prog 30 = some 24 := by kernel_rfl
theorem z30 : zeroT Tryz.prog 30 = some (.agg (List.replicate 16 (.int .u8 0) ++ [.int .i64 0] : List Value).toArray) := by kernel_rfl
theorem pl30 : placesT Tryz.prog 30 = some [(0, 16), (16, 1)] := by kernel_rfl
theorem fd30_0 : fieldT Tryz.prog 30 0 = some 0 := by kernel_rfl
theorem fd30_1 : fieldT Tryz.prog 30 1 = some 16 := by kernel_rfl
theorem a31 : aggT Tryz.prog 31 = some true := by kernel_rfl
theorem s31 : sizeT Tryz.prog 31 = some 17 := by kernel_rfl
theorem b31 : bytesT Tryz.prog 31 = some 24 := by kernel_rfl
theorem z31 : zeroT Tryz.prog 31 = some (.agg (List.replicate 16 (.int .u8 0) ++ [.int .i64 0] : List Value).toArray) := by kernel_rfl
theorem pl31 : placesT Tryz.prog 31 = some [(0, 16), (16, 1)] := by kernel_rfl
theorem fd31_0 : fieldT Tryz.prog 31 0 = some 0 := by kernel_rfl
theorem fd31_1 : fieldT Tryz.prog 31 1 = some 16 := by kernel_rfl
theorem a32 : aggT Tryz.prog 32 = some true := by kernel_rfl
theorem s32 : sizeT Tryz.prog 32 = some 51 := by kernel_rfl
theorem b32 : bytesT Tryz.prog 32 = some 72 := by kernel_rfl
theorem z32 : zeroT Tryz.prog 32 = some (.agg (List.replicate 16 (.int .u8 0) ++ [.int .i64 0] ++ List.replicate 32 (.int .u8 0) ++ [.int .i64 0, .int .i64 0] : List Value).toArray) := by kernel_rfl
theorem pl32 : placesT Tryz.prog 32 = some [(0, 17), (17, 16), (33, 16), (49, 1), (50, 1)] := by kernel_rfl
theorem fd32_0 : fieldT Tryz.prog 32 0 = some 0 := by kernel_rfl
theorem fd32_1 : fieldT Tryz.prog 32 1 = some 17 := by kernel_rfl
theorem fd32_2 : fieldT Tryz.prog 32 2 = some 33 := by kernel_rfl
theorem fd32_3 : fieldT Tryz.prog 32 3 = some 49 := by kernel_rfl
theorem fd32_4 : fieldT Tryz.prog 32 4 = some 50 := by kernel_rfl
theorem a33 : aggT Tryz.prog 33 = some true := by kernel_rfl
theorem s33 : sizeT Tryz.prog 33 = some 51 := by kernel_rfl
theorem b33 : bytesT Tryz.prog 33 = some 72 := by kernel_rfl
theorem z33 : zeroT Tryz.prog 33 = some (.agg (List.replicate 16 (.int .u8 0) ++ [.int .i64 0] ++ List.replicate 32 (.int .u8 0) ++ [.int .i64 0, .int .i64 0] : List Value).toArray) := by kernel_rfl
theorem pl33 : placesT Tryz.prog 33 = some [(0, 17), (17, 16), (33, 16), (49, 1), (50, 1)] := by kernel_rfl
theorem fd33_0 : fieldT Tryz.prog 33 0 = some 0 := by kernel_rfl
theorem fd33_1 : fieldT Tryz.prog 33 1 = some 17 := by kernel_rfl
theorem fd33_2 : fieldT Tryz.prog 33 2 = some 33 := by kernel_rfl
theorem fd33_3 : fieldT Tryz.prog 33 3 = some 49 := by kernel_rfl
theorem fd33_4 : fieldT Tryz.prog 33 4 = some 50 := by kernel_rfl
theorem u39 : Tryz.prog.underlying 39 = some (.slice 24) := by kernel_rfl
theorem a39 : aggT Tryz.prog 39 = some false := by kernel_rfl
theorem s39 : sizeT Tryz.prog 39 = some 1 := by kernel_rfl
theorem b39 : bytesT Tryz.prog 39 = some 24 := by kernel_rfl
theorem z39 : zeroT Tryz.prog 39 = some (.slice none 0 0) := by kernel_rfl
theorem el39 : elemT Tryz.prog 39 = some 24 := by kernel_rfl
theorem u43 : Tryz.prog.underlying 43 = some (.slice 31) := by kernel_rfl
theorem a43 : aggT Tryz.prog 43 = some false := by kernel_rfl
theorem s43 : sizeT Tryz.prog 43 = some 1 := by kernel_rfl
theorem b43 : bytesT Tryz.prog 43 = some 24 := by kernel_rfl
theorem z43 : zeroT Tryz.prog 43 = some (.slice none 0 0) := by kernel_rfl
theorem el43 : elemT Tryz.prog 43 = some 31 := by kernel_rfl
theorem a50 : aggT Tryz.prog 50 = some true := by kernel_rfl
theorem s50 : sizeT Tryz.prog 50 = some 2 := by kernel_rfl
theorem b50 : bytesT Tryz.prog 50 = some 32 := by kernel_rfl
theorem z50 : zeroT Tryz.prog 50 = some (.agg ([.slice none 0 0, .int .i64 0] : List Value).toArray) := by kernel_rfl
theorem pl50 : placesT Tryz.prog 50 = some [(0, 1), (1, 1)] := by kernel_rfl
theorem fd50_0 : fieldT Tryz.prog 50 0 = some 0 := by kernel_rfl
theorem fd50_1 : fieldT Tryz.prog 50 1 = some 1 := by kernel_rfl
theorem a51 : aggT Tryz.prog 51 = some true := by kernel_rfl
theorem s51 : sizeT Tryz.prog 51 = some 2 := by kernel_rfl
theorem b51 : bytesT Tryz.prog 51 = some 32 := by kernel_rfl
theorem z51 : zeroT Tryz.prog 51 = some (.agg ([.slice none 0 0, .int .i64 0] : List Value).toArray) := by kernel_rfl
theorem pl51 : placesT Tryz.prog 51 = some [(0, 1), (1, 1)] := by kernel_rfl
theorem fd51_0 : fieldT Tryz.prog 51 0 = some 0 := by kernel_rfl
theorem fd51_1 : fieldT Tryz.prog 51 1 = some 1 := by kernel_rfl
theorem u53 : Tryz.prog.underlying 53 = some (.slice 79) := by kernel_rfl
theorem a53 : aggT Tryz.prog 53 = some false := by kernel_rfl
theorem s53 : sizeT Tryz.prog 53 = some 1 := by kernel_rfl
theorem b53 : bytesT Tryz.prog 53 = some 24 := by kernel_rfl
theorem z53 : zeroT Tryz.prog 53 = some (.slice none 0 0) := by kernel_rfl
theorem el53 : elemT Tryz.prog 53 = some 79 := by kernel_rfl
theorem a54 : aggT Tryz.prog 54 = some true := by kernel_rfl
theorem s54 : sizeT Tryz.prog 54 = some 2 := by kernel_rfl
theorem b54 : bytesT Tryz.prog 54 = some 48 := by kernel_rfl
theorem z54 : zeroT Tryz.prog 54 = some (.agg ([.slice none 0 0, .slice none 0 0] : List Value).toArray) := by kernel_rfl
theorem pl54 : placesT Tryz.prog 54 = some [(0, 1), (1, 1)] := by kernel_rfl
theorem fd54_0 : fieldT Tryz.prog 54 0 = some 0 := by kernel_rfl
theorem fd54_1 : fieldT Tryz.prog 54 1 = some 1 := by kernel_rfl
theorem a55 : aggT Tryz.prog 55 = some true := by kernel_rfl
theorem s55 : sizeT Tryz.prog 55 = some 2 := by kernel_rfl
theorem b55 : bytesT Tryz.prog 55 = some 48 := by kernel_rfl
theorem z55 : zeroT Tryz.prog 55 = some (.agg ([.slice none 0 0, .slice none 0 0] : List Value).toArray) := by kernel_rfl
theorem pl55 : placesT Tryz.prog 55 = some [(0, 1), (1, 1)] := by kernel_rfl
theorem fd55_0 : fieldT Tryz.prog 55 0 = some 0 := by kernel_rfl
theorem fd55_1 : fieldT Tryz.prog 55 1 = some 1 := by kernel_rfl
theorem u63 : Tryz.prog.underlying 63 = some (.int .i64) := by kernel_rfl
theorem a63 : aggT Tryz.prog 63 = some false := by kernel_rfl
theorem s63 : sizeT Tryz.prog 63 = some 1 := by kernel_rfl
theorem b63 : bytesT Tryz.prog 63 = some 8 := by kernel_rfl
theorem z63 : zeroT Tryz.prog 63 = some (.int .i64 0) := by kernel_rfl
theorem a68 : aggT Tryz.prog 68 = some true := by kernel_rfl
theorem s68 : sizeT Tryz.prog 68 = some 2 := by kernel_rfl
theorem b68 : bytesT Tryz.prog 68 = some 16 := by kernel_rfl
theorem z68 : zeroT Tryz.prog 68 = some (.agg ([.int .i64 0, .int .i64 0] : List Value).toArray) := by kernel_rfl
theorem pl68 : placesT Tryz.prog 68 = some [(0, 1), (1, 1)] := by kernel_rfl
theorem fd68_0 : fieldT Tryz.prog 68 0 = some 0 := by kernel_rfl
theorem fd68_1 : fieldT Tryz.prog 68 1 = some 1 := by kernel_rfl
theorem a69 : aggT Tryz.prog 69 = some true := by kernel_rfl
theorem s69 : sizeT Tryz.prog 69 = some 2 := by kernel_rfl
theorem b69 : bytesT Tryz.prog 69 = some 16 := by kernel_rfl
theorem z69 : zeroT Tryz.prog 69 = some (.agg ([.int .i64 0, .int .i64 0] : List Value).toArray) := by kernel_rfl
theorem pl69 : placesT Tryz.prog 69 = some [(0, 1), (1, 1)] := by kernel_rfl
theorem fd69_0 : fieldT Tryz.prog 69 0 = some 0 := by kernel_rfl
theorem fd69_1 : fieldT Tryz.prog 69 1 = some 1 := by kernel_rfl
theorem u70 : Tryz.prog.underlying 70 = some (.slice 3) := by kernel_rfl
theorem a70 : aggT Tryz.prog 70 = some false := by kernel_rfl
theorem s70 : sizeT Tryz.prog 70 = some 1 := by kernel_rfl
theorem b70 : bytesT Tryz.prog 70 = some 24 := by kernel_rfl
theorem z70 : zeroT Tryz.prog 70 = some (.slice none 0 0) := by kernel_rfl
theorem el70 : elemT Tryz.prog 70 = some 3 := by kernel_rfl
theorem a71 : aggT Tryz.prog 71 = some true := by kernel_rfl
theorem s71 : sizeT Tryz.prog 71 = some 17 := by kernel_rfl
theorem b71 : bytesT Tryz.prog 71 = some 24 := by kernel_rfl
theorem z71 : zeroT Tryz.prog 71 = some (.agg ([.int .i64 0] ++ List.replicate 16 (.int .u8 0) : List Value).toArray) := by kernel_rfl
theorem pl71 : placesT Tryz.prog 71 = some [(0, 1), (1, 16)] := by kernel_rfl
theorem fd71_0 : fieldT Tryz.prog 71 0 = some 0 := by kernel_rfl
theorem fd71_1 : fieldT Tryz.prog 71 1 = some 1 := by kernel_rfl
theorem a72 : aggT Tryz.prog 72 = some true := by kernel_rfl
theorem s72 : sizeT Tryz.prog 72 = some 17 := by kernel_rfl
theorem b72 : bytesT Tryz.prog 72 = some 24 := by kernel_rfl
theorem z72 : zeroT Tryz.prog 72 = some (.agg ([.int .i64 0] ++ List.replicate 16 (.int .u8 0) : List Value).toArray) := by kernel_rfl
theorem pl72 : placesT Tryz.prog 72 = some [(0, 1), (1, 16)] := by kernel_rfl
theorem fd72_0 : fieldT Tryz.prog 72 0 = some 0 := by kernel_rfl
theorem fd72_1 : fieldT Tryz.prog 72 1 = some 1 := by kernel_rfl
theorem u73 : Tryz.prog.underlying 73 = some (.slice 5) := by kernel_rfl
theorem a73 : aggT Tryz.prog 73 = some false := by kernel_rfl
theorem s73 : sizeT Tryz.prog 73 = some 1 := by kernel_rfl
theorem b73 : bytesT Tryz.prog 73 = some 24 := by kernel_rfl
theorem z73 : zeroT Tryz.prog 73 = some (.slice none 0 0) := by kernel_rfl
theorem el73 : elemT Tryz.prog 73 = some 5 := by kernel_rfl
theorem a74 : aggT Tryz.prog 74 = some true := by kernel_rfl
theorem s74 : sizeT Tryz.prog 74 = some 34 := by kernel_rfl
theorem b74 : bytesT Tryz.prog 74 = some 64 := by kernel_rfl
theorem z74 : zeroT Tryz.prog 74 = some (.agg (List.replicate 16 (.int .u8 0) ++ [.int .i64 0] ++ List.replicate 16 (.int .u8 0) ++ [.slice none 0 0] : List Value).toArray) := by kernel_rfl
theorem pl74 : placesT Tryz.prog 74 = some [(0, 16), (16, 17), (33, 1)] := by kernel_rfl
theorem fd74_0 : fieldT Tryz.prog 74 0 = some 0 := by kernel_rfl
theorem fd74_1 : fieldT Tryz.prog 74 1 = some 16 := by kernel_rfl
theorem fd74_2 : fieldT Tryz.prog 74 2 = some 33 := by kernel_rfl
theorem a75 : aggT Tryz.prog 75 = some true := by kernel_rfl
theorem s75 : sizeT Tryz.prog 75 = some 34 := by kernel_rfl
theorem b75 : bytesT Tryz.prog 75 = some 64 := by kernel_rfl
theorem z75 : zeroT Tryz.prog 75 = some (.agg (List.replicate 16 (.int .u8 0) ++ [.int .i64 0] ++ List.replicate 16 (.int .u8 0) ++ [.slice none 0 0] : List Value).toArray) := by kernel_rfl
theorem pl75 : placesT Tryz.prog 75 = some [(0, 16), (16, 17), (33, 1)] := by kernel_rfl
theorem fd75_0 : fieldT Tryz.prog 75 0 = some 0 := by kernel_rfl
theorem fd75_1 : fieldT Tryz.prog 75 1 = some 16 := by kernel_rfl
theorem fd75_2 : fieldT Tryz.prog 75 2 = some 33 := by kernel_rfl
theorem a76 : aggT Tryz.prog 76 = some true := by kernel_rfl
theorem s76 : sizeT Tryz.prog 76 = some 95 := by kernel_rfl
theorem b76 : bytesT Tryz.prog 76 = some 264 := by kernel_rfl
theorem pl76 : placesT Tryz.prog 76 = some [(0, 1), (1, 17), (18, 1), (19, 16), (35, 16), (51, 1), (52, 2), (54, 2), (56, 1), (57, 1), (58, 34), (92, 1), (93, 1), (94, 1)] := by kernel_rfl
theorem fd76_0 : fieldT Tryz.prog 76 0 = some 0 := by kernel_rfl
theorem fd76_1 : fieldT Tryz.prog 76 1 = some 1 := by kernel_rfl
theorem fd76_2 : fieldT Tryz.prog 76 2 = some 18 := by kernel_rfl
theorem fd76_3 : fieldT Tryz.prog 76 3 = some 19 := by kernel_rfl
theorem fd76_4 : fieldT Tryz.prog 76 4 = some 35 := by kernel_rfl
theorem fd76_5 : fieldT Tryz.prog 76 5 = some 51 := by kernel_rfl
theorem fd76_6 : fieldT Tryz.prog 76 6 = some 52 := by kernel_rfl
theorem fd76_7 : fieldT Tryz.prog 76 7 = some 54 := by kernel_rfl
theorem fd76_8 : fieldT Tryz.prog 76 8 = some 56 := by kernel_rfl
theorem fd76_9 : fieldT Tryz.prog 76 9 = some 57 := by kernel_rfl
theorem fd76_10 : fieldT Tryz.prog 76 10 = some 58 := by kernel_rfl
theorem fd76_11 : fieldT Tryz.prog 76 11 = some 92 := by kernel_rfl
theorem fd76_12 : fieldT Tryz.prog 76 12 = some 93 := by kernel_rfl
theorem fd76_13 : fieldT Tryz.prog 76 13 = some 94 := by kernel_rfl
theorem a77 : aggT Tryz.prog 77 = some true := by kernel_rfl
theorem s77 : sizeT Tryz.prog 77 = some 95 := by kernel_rfl
theorem b77 : bytesT Tryz.prog 77 = some 264 := by kernel_rfl
theorem pl77 : placesT Tryz.prog 77 = some [(0, 1), (1, 17), (18, 1), (19, 16), (35, 16), (51, 1), (52, 2), (54, 2), (56, 1), (57, 1), (58, 34), (92, 1), (93, 1), (94, 1)] := by kernel_rfl
theorem fd77_0 : fieldT Tryz.prog 77 0 = some 0 := by kernel_rfl
theorem fd77_1 : fieldT Tryz.prog 77 1 = some 1 := by kernel_rfl
theorem fd77_2 : fieldT Tryz.prog 77 2 = some 18 := by kernel_rfl
theorem fd77_3 : fieldT Tryz.prog 77 3 = some 19 := by kernel_rfl
theorem fd77_4 : fieldT Tryz.prog 77 4 = some 35 := by kernel_rfl
theorem fd77_5 : fieldT Tryz.prog 77 5 = some 51 := by kernel_rfl
theorem fd77_6 : fieldT Tryz.prog 77 6 = some 52 := by kernel_rfl
theorem fd77_7 : fieldT Tryz.prog 77 7 = some 54 := by kernel_rfl
theorem fd77_8 : fieldT Tryz.prog 77 8 = some 56 := by kernel_rfl
theorem fd77_9 : fieldT Tryz.prog 77 9 = some 57 := by kernel_rfl
theorem fd77_10 : fieldT Tryz.prog 77 10 = some 58 := by kernel_rfl
theorem fd77_11 : fieldT Tryz.prog 77 11 = some 92 := by kernel_rfl
theorem fd77_12 : fieldT Tryz.prog 77 12 = some 93 := by kernel_rfl
theorem fd77_13 : fieldT Tryz.prog 77 13 = some 94 := by kernel_rfl
theorem a78 : aggT Tryz.prog 78 = some true := by kernel_rfl
theorem s78 : sizeT Tryz.prog 78 = some 96 := by kernel_rfl
theorem b78 : bytesT Tryz.prog 78 = some 272 := by kernel_rfl
theorem pl78 : placesT Tryz.prog 78 = some [(0, 1), (1, 95)] := by kernel_rfl
theorem fd78_0 : fieldT Tryz.prog 78 0 = some 0 := by kernel_rfl
theorem fd78_1 : fieldT Tryz.prog 78 1 = some 1 := by kernel_rfl
theorem a79 : aggT Tryz.prog 79 = some true := by kernel_rfl
theorem s79 : sizeT Tryz.prog 79 = some 96 := by kernel_rfl
theorem b79 : bytesT Tryz.prog 79 = some 272 := by kernel_rfl
theorem pl79 : placesT Tryz.prog 79 = some [(0, 1), (1, 95)] := by kernel_rfl
theorem fd79_0 : fieldT Tryz.prog 79 0 = some 0 := by kernel_rfl
theorem fd79_1 : fieldT Tryz.prog 79 1 = some 1 := by kernel_rfl
theorem u90 : Tryz.prog.underlying 90 = some (.map 31 33) := by kernel_rfl
theorem a90 : aggT Tryz.prog 90 = some false := by kernel_rfl
theorem s90 : sizeT Tryz.prog 90 = some 1 := by kernel_rfl
theorem b90 : bytesT Tryz.prog 90 = some 8 := by kernel_rfl
theorem z90 : zeroT Tryz.prog 90 = some (.map none) := by kernel_rfl
theorem a91 : aggT Tryz.prog 91 = some true := by kernel_rfl
theorem s91 : sizeT Tryz.prog 91 = some 2 := by kernel_rfl
theorem b91 : bytesT Tryz.prog 91 = some 16 := by kernel_rfl
theorem z91 : zeroT Tryz.prog 91 = some (.agg ([.int .i64 0, .map none] : List Value).toArray) := by kernel_rfl
theorem pl91 : placesT Tryz.prog 91 = some [(0, 1), (1, 1)] := by kernel_rfl
theorem fd91_0 : fieldT Tryz.prog 91 0 = some 0 := by kernel_rfl
theorem fd91_1 : fieldT Tryz.prog 91 1 = some 1 := by kernel_rfl
theorem a92 : aggT Tryz.prog 92 = some true := by kernel_rfl
theorem s92 : sizeT Tryz.prog 92 = some 2 := by kernel_rfl
theorem b92 : bytesT Tryz.prog 92 = some 16 := by kernel_rfl
theorem z92 : zeroT Tryz.prog 92 = some (.agg ([.int .i64 0, .map none] : List Value).toArray) := by kernel_rfl
theorem pl92 : placesT Tryz.prog 92 = some [(0, 1), (1, 1)] := by kernel_rfl
theorem fd92_0 : fieldT Tryz.prog 92 0 = some 0 := by kernel_rfl
theorem fd92_1 : fieldT Tryz.prog 92 1 = some 1 := by kernel_rfl
theorem u106 : Tryz.prog.underlying 106 = some (.pointer 55) := by kernel_rfl
theorem a106 : aggT Tryz.prog 106 = some false := by kernel_rfl
theorem s106 : sizeT Tryz.prog 106 = some 1 := by kernel_rfl
theorem b106 : bytesT Tryz.prog 106 = some 8 := by kernel_rfl
theorem z106 : zeroT Tryz.prog 106 = some (.pointer none) := by kernel_rfl
theorem a108 : aggT Tryz.prog 108 = some true := by kernel_rfl
theorem s108 : sizeT Tryz.prog 108 = some 17 := by kernel_rfl
theorem b108 : bytesT Tryz.prog 108 = some 24 := by kernel_rfl
theorem z108 : zeroT Tryz.prog 108 = some (.agg (List.replicate 16 (.int .u8 0) ++ [.int .i64 0] : List Value).toArray) := by kernel_rfl
theorem pl108 : placesT Tryz.prog 108 = some [(0, 17)] := by kernel_rfl
theorem fd108_0 : fieldT Tryz.prog 108 0 = some 0 := by kernel_rfl
theorem a109 : aggT Tryz.prog 109 = some true := by kernel_rfl
theorem s109 : sizeT Tryz.prog 109 = some 17 := by kernel_rfl
theorem b109 : bytesT Tryz.prog 109 = some 24 := by kernel_rfl
theorem z109 : zeroT Tryz.prog 109 = some (.agg (List.replicate 16 (.int .u8 0) ++ [.int .i64 0] : List Value).toArray) := by kernel_rfl
theorem pl109 : placesT Tryz.prog 109 = some [(0, 17)] := by kernel_rfl
theorem fd109_0 : fieldT Tryz.prog 109 0 = some 0 := by kernel_rfl
theorem u110 : Tryz.prog.underlying 110 = some (.int .u64) := by kernel_rfl
theorem a110 : aggT Tryz.prog 110 = some false := by kernel_rfl
theorem s110 : sizeT Tryz.prog 110 = some 1 := by kernel_rfl
theorem b110 : bytesT Tryz.prog 110 = some 8 := by kernel_rfl
theorem z110 : zeroT Tryz.prog 110 = some (.int .u64 0) := by kernel_rfl
theorem u118 : Tryz.prog.underlying 118 = some (.int .u64) := by kernel_rfl
theorem a118 : aggT Tryz.prog 118 = some false := by kernel_rfl
theorem s118 : sizeT Tryz.prog 118 = some 1 := by kernel_rfl
theorem b118 : bytesT Tryz.prog 118 = some 8 := by kernel_rfl
theorem z118 : zeroT Tryz.prog 118 = some (.int .u64 0) := by kernel_rfl
theorem a122 : aggT Tryz.prog 122 = some false := by kernel_rfl
theorem s122 : sizeT Tryz.prog 122 = some 1 := by kernel_rfl
theorem b122 : bytesT Tryz.prog 122 = some 16 := by kernel_rfl
theorem z122 : zeroT Tryz.prog 122 = some (.nilIface) := by kernel_rfl
theorem a123 : aggT Tryz.prog 123 = some false := by kernel_rfl
theorem s123 : sizeT Tryz.prog 123 = some 1 := by kernel_rfl
theorem b123 : bytesT Tryz.prog 123 = some 16 := by kernel_rfl
theorem z123 : zeroT Tryz.prog 123 = some (.nilIface) := by kernel_rfl
theorem a124 : aggT Tryz.prog 124 = some true := by kernel_rfl
theorem s124 : sizeT Tryz.prog 124 = some 20 := by kernel_rfl
theorem b124 : bytesT Tryz.prog 124 = some 48 := by kernel_rfl
theorem z124 : zeroT Tryz.prog 124 = some (.agg (List.replicate 4 (.int .i64 0) ++ List.replicate 16 (.int .u8 0) : List Value).toArray) := by kernel_rfl
theorem pl124 : placesT Tryz.prog 124 = some [(0, 2), (2, 2), (4, 16)] := by kernel_rfl
theorem fd124_0 : fieldT Tryz.prog 124 0 = some 0 := by kernel_rfl
theorem fd124_1 : fieldT Tryz.prog 124 1 = some 2 := by kernel_rfl
theorem fd124_2 : fieldT Tryz.prog 124 2 = some 4 := by kernel_rfl
theorem a125 : aggT Tryz.prog 125 = some true := by kernel_rfl
theorem s125 : sizeT Tryz.prog 125 = some 20 := by kernel_rfl
theorem b125 : bytesT Tryz.prog 125 = some 48 := by kernel_rfl
theorem z125 : zeroT Tryz.prog 125 = some (.agg (List.replicate 4 (.int .i64 0) ++ List.replicate 16 (.int .u8 0) : List Value).toArray) := by kernel_rfl
theorem pl125 : placesT Tryz.prog 125 = some [(0, 2), (2, 2), (4, 16)] := by kernel_rfl
theorem fd125_0 : fieldT Tryz.prog 125 0 = some 0 := by kernel_rfl
theorem fd125_1 : fieldT Tryz.prog 125 1 = some 2 := by kernel_rfl
theorem fd125_2 : fieldT Tryz.prog 125 2 = some 4 := by kernel_rfl
theorem a126 : aggT Tryz.prog 126 = some true := by kernel_rfl
theorem s126 : sizeT Tryz.prog 126 = some 6 := by kernel_rfl
theorem b126 : bytesT Tryz.prog 126 = some 64 := by kernel_rfl
theorem z126 : zeroT Tryz.prog 126 = some (.agg (List.replicate 5 (.int .i64 0) ++ [.slice none 0 0] : List Value).toArray) := by kernel_rfl
theorem pl126 : placesT Tryz.prog 126 = some [(0, 2), (2, 2), (4, 1), (5, 1)] := by kernel_rfl
theorem fd126_0 : fieldT Tryz.prog 126 0 = some 0 := by kernel_rfl
theorem fd126_1 : fieldT Tryz.prog 126 1 = some 2 := by kernel_rfl
theorem fd126_2 : fieldT Tryz.prog 126 2 = some 4 := by kernel_rfl
theorem fd126_3 : fieldT Tryz.prog 126 3 = some 5 := by kernel_rfl
theorem a127 : aggT Tryz.prog 127 = some true := by kernel_rfl
theorem s127 : sizeT Tryz.prog 127 = some 6 := by kernel_rfl
theorem b127 : bytesT Tryz.prog 127 = some 64 := by kernel_rfl
theorem z127 : zeroT Tryz.prog 127 = some (.agg (List.replicate 5 (.int .i64 0) ++ [.slice none 0 0] : List Value).toArray) := by kernel_rfl
theorem pl127 : placesT Tryz.prog 127 = some [(0, 2), (2, 2), (4, 1), (5, 1)] := by kernel_rfl
theorem fd127_0 : fieldT Tryz.prog 127 0 = some 0 := by kernel_rfl
theorem fd127_1 : fieldT Tryz.prog 127 1 = some 2 := by kernel_rfl
theorem fd127_2 : fieldT Tryz.prog 127 2 = some 4 := by kernel_rfl
theorem fd127_3 : fieldT Tryz.prog 127 3 = some 5 := by kernel_rfl
theorem a128 : aggT Tryz.prog 128 = some true := by kernel_rfl
theorem s128 : sizeT Tryz.prog 128 = some 5 := by kernel_rfl
theorem b128 : bytesT Tryz.prog 128 = some 40 := by kernel_rfl
theorem z128 : zeroT Tryz.prog 128 = some (.agg (List.replicate 5 (.int .i64 0) : List Value).toArray) := by kernel_rfl
theorem pl128 : placesT Tryz.prog 128 = some [(0, 2), (2, 2), (4, 1)] := by kernel_rfl
theorem fd128_0 : fieldT Tryz.prog 128 0 = some 0 := by kernel_rfl
theorem fd128_1 : fieldT Tryz.prog 128 1 = some 2 := by kernel_rfl
theorem fd128_2 : fieldT Tryz.prog 128 2 = some 4 := by kernel_rfl
theorem a129 : aggT Tryz.prog 129 = some true := by kernel_rfl
theorem s129 : sizeT Tryz.prog 129 = some 5 := by kernel_rfl
theorem b129 : bytesT Tryz.prog 129 = some 40 := by kernel_rfl
theorem z129 : zeroT Tryz.prog 129 = some (.agg (List.replicate 5 (.int .i64 0) : List Value).toArray) := by kernel_rfl
theorem pl129 : placesT Tryz.prog 129 = some [(0, 2), (2, 2), (4, 1)] := by kernel_rfl
theorem fd129_0 : fieldT Tryz.prog 129 0 = some 0 := by kernel_rfl
theorem fd129_1 : fieldT Tryz.prog 129 1 = some 2 := by kernel_rfl
theorem fd129_2 : fieldT Tryz.prog 129 2 = some 4 := by kernel_rfl
theorem a130 : aggT Tryz.prog 130 = some true := by kernel_rfl
theorem s130 : sizeT Tryz.prog 130 = some 50 := by kernel_rfl
theorem b130 : bytesT Tryz.prog 130 = some 80 := by kernel_rfl
theorem z130 : zeroT Tryz.prog 130 = some (.agg (List.replicate 16 (.int .u8 0) ++ [.int .i64 0] ++ List.replicate 32 (.int .u8 0) ++ [.slice none 0 0] : List Value).toArray) := by kernel_rfl
theorem pl130 : placesT Tryz.prog 130 = some [(0, 17), (17, 16), (33, 16), (49, 1)] := by kernel_rfl
theorem fd130_0 : fieldT Tryz.prog 130 0 = some 0 := by kernel_rfl
theorem fd130_1 : fieldT Tryz.prog 130 1 = some 17 := by kernel_rfl
theorem fd130_2 : fieldT Tryz.prog 130 2 = some 33 := by kernel_rfl
theorem fd130_3 : fieldT Tryz.prog 130 3 = some 49 := by kernel_rfl
theorem a131 : aggT Tryz.prog 131 = some true := by kernel_rfl
theorem s131 : sizeT Tryz.prog 131 = some 50 := by kernel_rfl
theorem b131 : bytesT Tryz.prog 131 = some 80 := by kernel_rfl
theorem z131 : zeroT Tryz.prog 131 = some (.agg (List.replicate 16 (.int .u8 0) ++ [.int .i64 0] ++ List.replicate 32 (.int .u8 0) ++ [.slice none 0 0] : List Value).toArray) := by kernel_rfl
theorem pl131 : placesT Tryz.prog 131 = some [(0, 17), (17, 16), (33, 16), (49, 1)] := by kernel_rfl
theorem fd131_0 : fieldT Tryz.prog 131 0 = some 0 := by kernel_rfl
theorem fd131_1 : fieldT Tryz.prog 131 1 = some 17 := by kernel_rfl
theorem fd131_2 : fieldT Tryz.prog 131 2 = some 33 := by kernel_rfl
theorem fd131_3 : fieldT Tryz.prog 131 3 = some 49 := by kernel_rfl
theorem a132 : aggT Tryz.prog 132 = some true := by kernel_rfl
theorem s132 : sizeT Tryz.prog 132 = some 18 := by kernel_rfl
theorem b132 : bytesT Tryz.prog 132 = some 32 := by kernel_rfl
theorem z132 : zeroT Tryz.prog 132 = some (.agg (List.replicate 16 (.int .u8 0) ++ [.int .i64 0, .bool false] : List Value).toArray) := by kernel_rfl
theorem pl132 : placesT Tryz.prog 132 = some [(0, 17), (17, 1)] := by kernel_rfl
theorem fd132_0 : fieldT Tryz.prog 132 0 = some 0 := by kernel_rfl
theorem fd132_1 : fieldT Tryz.prog 132 1 = some 17 := by kernel_rfl
theorem a133 : aggT Tryz.prog 133 = some true := by kernel_rfl
theorem s133 : sizeT Tryz.prog 133 = some 18 := by kernel_rfl
theorem b133 : bytesT Tryz.prog 133 = some 32 := by kernel_rfl
theorem z133 : zeroT Tryz.prog 133 = some (.agg (List.replicate 16 (.int .u8 0) ++ [.int .i64 0, .bool false] : List Value).toArray) := by kernel_rfl
theorem pl133 : placesT Tryz.prog 133 = some [(0, 17), (17, 1)] := by kernel_rfl
theorem fd133_0 : fieldT Tryz.prog 133 0 = some 0 := by kernel_rfl
theorem fd133_1 : fieldT Tryz.prog 133 1 = some 17 := by kernel_rfl
theorem a134 : aggT Tryz.prog 134 = some true := by kernel_rfl
theorem s134 : sizeT Tryz.prog 134 = some 19 := by kernel_rfl
theorem b134 : bytesT Tryz.prog 134 = some 56 := by kernel_rfl
theorem z134 : zeroT Tryz.prog 134 = some (.agg (List.replicate 16 (.int .u8 0) ++ [.int .i64 0, .bool false, .slice none 0 0] : List Value).toArray) := by kernel_rfl
theorem pl134 : placesT Tryz.prog 134 = some [(0, 17), (17, 1), (18, 1)] := by kernel_rfl
theorem fd134_0 : fieldT Tryz.prog 134 0 = some 0 := by kernel_rfl
theorem fd134_1 : fieldT Tryz.prog 134 1 = some 17 := by kernel_rfl
theorem fd134_2 : fieldT Tryz.prog 134 2 = some 18 := by kernel_rfl
theorem a135 : aggT Tryz.prog 135 = some true := by kernel_rfl
theorem s135 : sizeT Tryz.prog 135 = some 19 := by kernel_rfl
theorem b135 : bytesT Tryz.prog 135 = some 56 := by kernel_rfl
theorem z135 : zeroT Tryz.prog 135 = some (.agg (List.replicate 16 (.int .u8 0) ++ [.int .i64 0, .bool false, .slice none 0 0] : List Value).toArray) := by kernel_rfl
theorem pl135 : placesT Tryz.prog 135 = some [(0, 17), (17, 1), (18, 1)] := by kernel_rfl
theorem fd135_0 : fieldT Tryz.prog 135 0 = some 0 := by kernel_rfl
theorem fd135_1 : fieldT Tryz.prog 135 1 = some 17 := by kernel_rfl
theorem fd135_2 : fieldT Tryz.prog 135 2 = some 18 := by kernel_rfl
theorem a136 : aggT Tryz.prog 136 = some true := by kernel_rfl
theorem s136 : sizeT Tryz.prog 136 = some 52 := by kernel_rfl
theorem b136 : bytesT Tryz.prog 136 = some 96 := by kernel_rfl
theorem z136 : zeroT Tryz.prog 136 = some (.agg (List.replicate 32 (.int .u8 0) ++ [.int .i64 0] ++ List.replicate 16 (.int .u8 0) ++ [.int .i64 0, .bool false, .slice none 0 0] : List Value).toArray) := by kernel_rfl
theorem pl136 : placesT Tryz.prog 136 = some [(0, 16), (16, 16), (32, 1), (33, 17), (50, 1), (51, 1)] := by kernel_rfl
theorem fd136_0 : fieldT Tryz.prog 136 0 = some 0 := by kernel_rfl
theorem fd136_1 : fieldT Tryz.prog 136 1 = some 16 := by kernel_rfl
theorem fd136_2 : fieldT Tryz.prog 136 2 = some 32 := by kernel_rfl
theorem fd136_3 : fieldT Tryz.prog 136 3 = some 33 := by kernel_rfl
theorem fd136_4 : fieldT Tryz.prog 136 4 = some 50 := by kernel_rfl
theorem fd136_5 : fieldT Tryz.prog 136 5 = some 51 := by kernel_rfl
theorem a137 : aggT Tryz.prog 137 = some true := by kernel_rfl
theorem s137 : sizeT Tryz.prog 137 = some 52 := by kernel_rfl
theorem b137 : bytesT Tryz.prog 137 = some 96 := by kernel_rfl
theorem z137 : zeroT Tryz.prog 137 = some (.agg (List.replicate 32 (.int .u8 0) ++ [.int .i64 0] ++ List.replicate 16 (.int .u8 0) ++ [.int .i64 0, .bool false, .slice none 0 0] : List Value).toArray) := by kernel_rfl
theorem pl137 : placesT Tryz.prog 137 = some [(0, 16), (16, 16), (32, 1), (33, 17), (50, 1), (51, 1)] := by kernel_rfl
theorem fd137_0 : fieldT Tryz.prog 137 0 = some 0 := by kernel_rfl
theorem fd137_1 : fieldT Tryz.prog 137 1 = some 16 := by kernel_rfl
theorem fd137_2 : fieldT Tryz.prog 137 2 = some 32 := by kernel_rfl
theorem fd137_3 : fieldT Tryz.prog 137 3 = some 33 := by kernel_rfl
theorem fd137_4 : fieldT Tryz.prog 137 4 = some 50 := by kernel_rfl
theorem fd137_5 : fieldT Tryz.prog 137 5 = some 51 := by kernel_rfl
theorem a138 : aggT Tryz.prog 138 = some true := by kernel_rfl
theorem s138 : sizeT Tryz.prog 138 = some 17 := by kernel_rfl
theorem b138 : bytesT Tryz.prog 138 = some 24 := by kernel_rfl
theorem z138 : zeroT Tryz.prog 138 = some (.agg (List.replicate 16 (.int .u8 0) ++ [.int .i64 0] : List Value).toArray) := by kernel_rfl
theorem pl138 : placesT Tryz.prog 138 = some [(0, 16), (16, 1)] := by kernel_rfl
theorem fd138_0 : fieldT Tryz.prog 138 0 = some 0 := by kernel_rfl
theorem fd138_1 : fieldT Tryz.prog 138 1 = some 16 := by kernel_rfl
theorem a139 : aggT Tryz.prog 139 = some true := by kernel_rfl
theorem s139 : sizeT Tryz.prog 139 = some 17 := by kernel_rfl
theorem b139 : bytesT Tryz.prog 139 = some 24 := by kernel_rfl
theorem z139 : zeroT Tryz.prog 139 = some (.agg (List.replicate 16 (.int .u8 0) ++ [.int .i64 0] : List Value).toArray) := by kernel_rfl
theorem pl139 : placesT Tryz.prog 139 = some [(0, 16), (16, 1)] := by kernel_rfl
theorem fd139_0 : fieldT Tryz.prog 139 0 = some 0 := by kernel_rfl
theorem fd139_1 : fieldT Tryz.prog 139 1 = some 16 := by kernel_rfl
theorem a140 : aggT Tryz.prog 140 = some true := by kernel_rfl
theorem s140 : sizeT Tryz.prog 140 = some 70 := by kernel_rfl
theorem b140 : bytesT Tryz.prog 140 = some 144 := by kernel_rfl
theorem z140 : zeroT Tryz.prog 140 = some (.agg (List.replicate 32 (.int .u8 0) ++ [.int .i64 0, .int .i64 0, .int .i64 0] ++ List.replicate 16 (.int .u8 0) ++ [.int .i64 0] ++ List.replicate 16 (.int .u8 0) ++ [.slice none 0 0, .slice none 0 0] : List Value).toArray) := by kernel_rfl
theorem pl140 : placesT Tryz.prog 140 = some [(0, 16), (16, 16), (32, 1), (33, 1), (34, 1), (35, 34), (69, 1)] := by kernel_rfl
theorem fd140_0 : fieldT Tryz.prog 140 0 = some 0 := by kernel_rfl
theorem fd140_1 : fieldT Tryz.prog 140 1 = some 16 := by kernel_rfl
theorem fd140_2 : fieldT Tryz.prog 140 2 = some 32 := by kernel_rfl
theorem fd140_3 : fieldT Tryz.prog 140 3 = some 33 := by kernel_rfl
theorem fd140_4 : fieldT Tryz.prog 140 4 = some 34 := by kernel_rfl
theorem fd140_5 : fieldT Tryz.prog 140 5 = some 35 := by kernel_rfl
theorem fd140_6 : fieldT Tryz.prog 140 6 = some 69 := by kernel_rfl
theorem a141 : aggT Tryz.prog 141 = some true := by kernel_rfl
theorem s141 : sizeT Tryz.prog 141 = some 70 := by kernel_rfl
theorem b141 : bytesT Tryz.prog 141 = some 144 := by kernel_rfl
theorem z141 : zeroT Tryz.prog 141 = some (.agg (List.replicate 32 (.int .u8 0) ++ [.int .i64 0, .int .i64 0, .int .i64 0] ++ List.replicate 16 (.int .u8 0) ++ [.int .i64 0] ++ List.replicate 16 (.int .u8 0) ++ [.slice none 0 0, .slice none 0 0] : List Value).toArray) := by kernel_rfl
theorem pl141 : placesT Tryz.prog 141 = some [(0, 16), (16, 16), (32, 1), (33, 1), (34, 1), (35, 34), (69, 1)] := by kernel_rfl
theorem fd141_0 : fieldT Tryz.prog 141 0 = some 0 := by kernel_rfl
theorem fd141_1 : fieldT Tryz.prog 141 1 = some 16 := by kernel_rfl
theorem fd141_2 : fieldT Tryz.prog 141 2 = some 32 := by kernel_rfl
theorem fd141_3 : fieldT Tryz.prog 141 3 = some 33 := by kernel_rfl
theorem fd141_4 : fieldT Tryz.prog 141 4 = some 34 := by kernel_rfl
theorem fd141_5 : fieldT Tryz.prog 141 5 = some 35 := by kernel_rfl
theorem fd141_6 : fieldT Tryz.prog 141 6 = some 69 := by kernel_rfl
theorem a143 : aggT Tryz.prog 143 = some true := by kernel_rfl
theorem s143 : sizeT Tryz.prog 143 = some 52 := by kernel_rfl
theorem b143 : bytesT Tryz.prog 143 = some 96 := by kernel_rfl
theorem z143 : zeroT Tryz.prog 143 = some (.agg (List.replicate 16 (.int .u8 0) ++ [.int .i64 0, .bool false] ++ List.replicate 16 (.int .u8 0) ++ [.int .i64 0] ++ List.replicate 16 (.int .u8 0) ++ [.slice none 0 0] : List Value).toArray) := by kernel_rfl
theorem pl143 : placesT Tryz.prog 143 = some [(0, 17), (17, 1), (18, 34)] := by kernel_rfl
theorem fd143_0 : fieldT Tryz.prog 143 0 = some 0 := by kernel_rfl
theorem fd143_1 : fieldT Tryz.prog 143 1 = some 17 := by kernel_rfl
theorem fd143_2 : fieldT Tryz.prog 143 2 = some 18 := by kernel_rfl
theorem a144 : aggT Tryz.prog 144 = some true := by kernel_rfl
theorem s144 : sizeT Tryz.prog 144 = some 52 := by kernel_rfl
theorem b144 : bytesT Tryz.prog 144 = some 96 := by kernel_rfl
theorem z144 : zeroT Tryz.prog 144 = some (.agg (List.replicate 16 (.int .u8 0) ++ [.int .i64 0, .bool false] ++ List.replicate 16 (.int .u8 0) ++ [.int .i64 0] ++ List.replicate 16 (.int .u8 0) ++ [.slice none 0 0] : List Value).toArray) := by kernel_rfl
theorem pl144 : placesT Tryz.prog 144 = some [(0, 17), (17, 1), (18, 34)] := by kernel_rfl
theorem fd144_0 : fieldT Tryz.prog 144 0 = some 0 := by kernel_rfl
theorem fd144_1 : fieldT Tryz.prog 144 1 = some 17 := by kernel_rfl
theorem fd144_2 : fieldT Tryz.prog 144 2 = some 18 := by kernel_rfl
theorem a145 : aggT Tryz.prog 145 = some true := by kernel_rfl
theorem s145 : sizeT Tryz.prog 145 = some 51 := by kernel_rfl
theorem b145 : bytesT Tryz.prog 145 = some 72 := by kernel_rfl
theorem z145 : zeroT Tryz.prog 145 = some (.agg (List.replicate 16 (.int .u8 0) ++ [.int .i64 0, .bool false] ++ List.replicate 16 (.int .u8 0) ++ [.int .i64 0] ++ List.replicate 16 (.int .u8 0) : List Value).toArray) := by kernel_rfl
theorem pl145 : placesT Tryz.prog 145 = some [(0, 17), (17, 1), (18, 16), (34, 17)] := by kernel_rfl
theorem fd145_0 : fieldT Tryz.prog 145 0 = some 0 := by kernel_rfl
theorem fd145_1 : fieldT Tryz.prog 145 1 = some 17 := by kernel_rfl
theorem fd145_2 : fieldT Tryz.prog 145 2 = some 18 := by kernel_rfl
theorem fd145_3 : fieldT Tryz.prog 145 3 = some 34 := by kernel_rfl
theorem a146 : aggT Tryz.prog 146 = some true := by kernel_rfl
theorem s146 : sizeT Tryz.prog 146 = some 51 := by kernel_rfl
theorem b146 : bytesT Tryz.prog 146 = some 72 := by kernel_rfl
theorem z146 : zeroT Tryz.prog 146 = some (.agg (List.replicate 16 (.int .u8 0) ++ [.int .i64 0, .bool false] ++ List.replicate 16 (.int .u8 0) ++ [.int .i64 0] ++ List.replicate 16 (.int .u8 0) : List Value).toArray) := by kernel_rfl
theorem pl146 : placesT Tryz.prog 146 = some [(0, 17), (17, 1), (18, 16), (34, 17)] := by kernel_rfl
theorem fd146_0 : fieldT Tryz.prog 146 0 = some 0 := by kernel_rfl
theorem fd146_1 : fieldT Tryz.prog 146 1 = some 17 := by kernel_rfl
theorem fd146_2 : fieldT Tryz.prog 146 2 = some 18 := by kernel_rfl
theorem fd146_3 : fieldT Tryz.prog 146 3 = some 34 := by kernel_rfl
theorem u148 : Tryz.prog.underlying 148 = some (.int .i64) := by kernel_rfl
theorem a148 : aggT Tryz.prog 148 = some false := by kernel_rfl
theorem s148 : sizeT Tryz.prog 148 = some 1 := by kernel_rfl
theorem b148 : bytesT Tryz.prog 148 = some 8 := by kernel_rfl
theorem z148 : zeroT Tryz.prog 148 = some (.int .i64 0) := by kernel_rfl
theorem u156 : Tryz.prog.underlying 156 = some (.int .u32) := by kernel_rfl
theorem a156 : aggT Tryz.prog 156 = some false := by kernel_rfl
theorem s156 : sizeT Tryz.prog 156 = some 1 := by kernel_rfl
theorem b156 : bytesT Tryz.prog 156 = some 4 := by kernel_rfl
theorem z156 : zeroT Tryz.prog 156 = some (.int .u32 0) := by kernel_rfl
theorem u160 : Tryz.prog.underlying 160 = some (.int .u64) := by kernel_rfl
theorem a160 : aggT Tryz.prog 160 = some false := by kernel_rfl
theorem s160 : sizeT Tryz.prog 160 = some 1 := by kernel_rfl
theorem b160 : bytesT Tryz.prog 160 = some 8 := by kernel_rfl
theorem z160 : zeroT Tryz.prog 160 = some (.int .u64 0) := by kernel_rfl
theorem u164 : Tryz.prog.underlying 164 = some (.pointer 3) := by kernel_rfl
theorem a164 : aggT Tryz.prog 164 = some false := by kernel_rfl
theorem s164 : sizeT Tryz.prog 164 = some 1 := by kernel_rfl
theorem b164 : bytesT Tryz.prog 164 = some 8 := by kernel_rfl
theorem z164 : zeroT Tryz.prog 164 = some (.pointer none) := by kernel_rfl
theorem u171 : Tryz.prog.underlying 171 = some (.pointer 160) := by kernel_rfl
theorem a171 : aggT Tryz.prog 171 = some false := by kernel_rfl
theorem s171 : sizeT Tryz.prog 171 = some 1 := by kernel_rfl
theorem b171 : bytesT Tryz.prog 171 = some 8 := by kernel_rfl
theorem z171 : zeroT Tryz.prog 171 = some (.pointer none) := by kernel_rfl
theorem a178 : aggT Tryz.prog 178 = some true := by kernel_rfl
theorem s178 : sizeT Tryz.prog 178 = some 4 := by kernel_rfl
theorem b178 : bytesT Tryz.prog 178 = some 40 := by kernel_rfl
theorem z178 : zeroT Tryz.prog 178 = some (.agg ([.pointer none, .pointer none, .pointer none, .string ByteArray.empty] : List Value).toArray) := by kernel_rfl
theorem pl178 : placesT Tryz.prog 178 = some [(0, 1), (1, 1), (2, 1), (3, 1)] := by kernel_rfl
theorem fd178_0 : fieldT Tryz.prog 178 0 = some 0 := by kernel_rfl
theorem fd178_1 : fieldT Tryz.prog 178 1 = some 1 := by kernel_rfl
theorem fd178_2 : fieldT Tryz.prog 178 2 = some 2 := by kernel_rfl
theorem fd178_3 : fieldT Tryz.prog 178 3 = some 3 := by kernel_rfl
theorem a179 : aggT Tryz.prog 179 = some true := by kernel_rfl
theorem s179 : sizeT Tryz.prog 179 = some 4 := by kernel_rfl
theorem b179 : bytesT Tryz.prog 179 = some 40 := by kernel_rfl
theorem z179 : zeroT Tryz.prog 179 = some (.agg ([.pointer none, .pointer none, .pointer none, .string ByteArray.empty] : List Value).toArray) := by kernel_rfl
theorem pl179 : placesT Tryz.prog 179 = some [(0, 1), (1, 1), (2, 1), (3, 1)] := by kernel_rfl
theorem fd179_0 : fieldT Tryz.prog 179 0 = some 0 := by kernel_rfl
theorem fd179_1 : fieldT Tryz.prog 179 1 = some 1 := by kernel_rfl
theorem fd179_2 : fieldT Tryz.prog 179 2 = some 2 := by kernel_rfl
theorem fd179_3 : fieldT Tryz.prog 179 3 = some 3 := by kernel_rfl
theorem u180 : Tryz.prog.underlying 180 = some (.array 0 16) := by kernel_rfl
theorem a180 : aggT Tryz.prog 180 = some true := by kernel_rfl
theorem s180 : sizeT Tryz.prog 180 = some 0 := by kernel_rfl
theorem b180 : bytesT Tryz.prog 180 = some 0 := by kernel_rfl
theorem z180 : zeroT Tryz.prog 180 = some (.agg ([] : List Value).toArray) := by kernel_rfl
theorem ar180 : arrT Tryz.prog 180 = some (0, 16) := by kernel_rfl
theorem a181 : aggT Tryz.prog 181 = some true := by kernel_rfl
theorem s181 : sizeT Tryz.prog 181 = some 0 := by kernel_rfl
theorem b181 : bytesT Tryz.prog 181 = some 0 := by kernel_rfl
theorem z181 : zeroT Tryz.prog 181 = some (.agg ([] : List Value).toArray) := by kernel_rfl
theorem pl181 : placesT Tryz.prog 181 = some [(0, 0)] := by kernel_rfl
theorem a182 : aggT Tryz.prog 182 = some true := by kernel_rfl
theorem s182 : sizeT Tryz.prog 182 = some 0 := by kernel_rfl
theorem b182 : bytesT Tryz.prog 182 = some 0 := by kernel_rfl
theorem z182 : zeroT Tryz.prog 182 = some (.agg ([] : List Value).toArray) := by kernel_rfl
theorem pl182 : placesT Tryz.prog 182 = some [(0, 0)] := by kernel_rfl
theorem u183 : Tryz.prog.underlying 183 = some (.int .u8) := by kernel_rfl
theorem a183 : aggT Tryz.prog 183 = some false := by kernel_rfl
theorem s183 : sizeT Tryz.prog 183 = some 1 := by kernel_rfl
theorem b183 : bytesT Tryz.prog 183 = some 1 := by kernel_rfl
theorem z183 : zeroT Tryz.prog 183 = some (.int .u8 0) := by kernel_rfl
theorem u184 : Tryz.prog.underlying 184 = some (.int .u8) := by kernel_rfl
theorem a184 : aggT Tryz.prog 184 = some false := by kernel_rfl
theorem s184 : sizeT Tryz.prog 184 = some 1 := by kernel_rfl
theorem b184 : bytesT Tryz.prog 184 = some 1 := by kernel_rfl
theorem z184 : zeroT Tryz.prog 184 = some (.int .u8 0) := by kernel_rfl
theorem u186 : Tryz.prog.underlying 186 = some (.pointer 5) := by kernel_rfl
theorem a186 : aggT Tryz.prog 186 = some false := by kernel_rfl
theorem s186 : sizeT Tryz.prog 186 = some 1 := by kernel_rfl
theorem b186 : bytesT Tryz.prog 186 = some 8 := by kernel_rfl
theorem z186 : zeroT Tryz.prog 186 = some (.pointer none) := by kernel_rfl
theorem u187 : Tryz.prog.underlying 187 = some (.int .i32) := by kernel_rfl
theorem a187 : aggT Tryz.prog 187 = some false := by kernel_rfl
theorem s187 : sizeT Tryz.prog 187 = some 1 := by kernel_rfl
theorem b187 : bytesT Tryz.prog 187 = some 4 := by kernel_rfl
theorem z187 : zeroT Tryz.prog 187 = some (.int .i32 0) := by kernel_rfl
theorem u188 : Tryz.prog.underlying 188 = some (.int .i32) := by kernel_rfl
theorem a188 : aggT Tryz.prog 188 = some false := by kernel_rfl
theorem s188 : sizeT Tryz.prog 188 = some 1 := by kernel_rfl
theorem b188 : bytesT Tryz.prog 188 = some 4 := by kernel_rfl
theorem z188 : zeroT Tryz.prog 188 = some (.int .i32 0) := by kernel_rfl
theorem a189 : aggT Tryz.prog 189 = some true := by kernel_rfl
theorem s189 : sizeT Tryz.prog 189 = some 11 := by kernel_rfl
theorem b189 : bytesT Tryz.prog 189 = some 48 := by kernel_rfl
theorem z189 : zeroT Tryz.prog 189 = some (.agg ([.int .u64 0, .int .u64 0, .int .u32 0] ++ List.replicate 4 (.int .u8 0) ++ [.nilFunc, .pointer none, .int .i32 0, .int .i32 0] : List Value).toArray) := by kernel_rfl
theorem pl189 : placesT Tryz.prog 189 = some [(0, 1), (1, 1), (2, 1), (3, 1), (4, 1), (5, 1), (6, 1), (7, 1), (8, 1), (9, 1), (10, 1)] := by kernel_rfl
theorem fd189_0 : fieldT Tryz.prog 189 0 = some 0 := by kernel_rfl
theorem fd189_1 : fieldT Tryz.prog 189 1 = some 1 := by kernel_rfl
theorem fd189_2 : fieldT Tryz.prog 189 2 = some 2 := by kernel_rfl
theorem fd189_3 : fieldT Tryz.prog 189 3 = some 3 := by kernel_rfl
theorem fd189_4 : fieldT Tryz.prog 189 4 = some 4 := by kernel_rfl
theorem fd189_5 : fieldT Tryz.prog 189 5 = some 5 := by kernel_rfl
theorem fd189_6 : fieldT Tryz.prog 189 6 = some 6 := by kernel_rfl
theorem fd189_7 : fieldT Tryz.prog 189 7 = some 7 := by kernel_rfl
theorem fd189_8 : fieldT Tryz.prog 189 8 = some 8 := by kernel_rfl
theorem fd189_9 : fieldT Tryz.prog 189 9 = some 9 := by kernel_rfl
theorem fd189_10 : fieldT Tryz.prog 189 10 = some 10 := by kernel_rfl
theorem a190 : aggT Tryz.prog 190 = some true := by kernel_rfl
theorem s190 : sizeT Tryz.prog 190 = some 11 := by kernel_rfl
theorem b190 : bytesT Tryz.prog 190 = some 48 := by kernel_rfl
theorem z190 : zeroT Tryz.prog 190 = some (.agg ([.int .u64 0, .int .u64 0, .int .u32 0] ++ List.replicate 4 (.int .u8 0) ++ [.nilFunc, .pointer none, .int .i32 0, .int .i32 0] : List Value).toArray) := by kernel_rfl
theorem pl190 : placesT Tryz.prog 190 = some [(0, 1), (1, 1), (2, 1), (3, 1), (4, 1), (5, 1), (6, 1), (7, 1), (8, 1), (9, 1), (10, 1)] := by kernel_rfl
theorem fd190_0 : fieldT Tryz.prog 190 0 = some 0 := by kernel_rfl
theorem fd190_1 : fieldT Tryz.prog 190 1 = some 1 := by kernel_rfl
theorem fd190_2 : fieldT Tryz.prog 190 2 = some 2 := by kernel_rfl
theorem fd190_3 : fieldT Tryz.prog 190 3 = some 3 := by kernel_rfl
theorem fd190_4 : fieldT Tryz.prog 190 4 = some 4 := by kernel_rfl
theorem fd190_5 : fieldT Tryz.prog 190 5 = some 5 := by kernel_rfl
theorem fd190_6 : fieldT Tryz.prog 190 6 = some 6 := by kernel_rfl
theorem fd190_7 : fieldT Tryz.prog 190 7 = some 7 := by kernel_rfl
theorem fd190_8 : fieldT Tryz.prog 190 8 = some 8 := by kernel_rfl
theorem fd190_9 : fieldT Tryz.prog 190 9 = some 9 := by kernel_rfl
theorem fd190_10 : fieldT Tryz.prog 190 10 = some 10 := by kernel_rfl
theorem a192 : aggT Tryz.prog 192 = some false := by kernel_rfl
theorem s192 : sizeT Tryz.prog 192 = some 1 := by kernel_rfl
theorem b192 : bytesT Tryz.prog 192 = some 8 := by kernel_rfl
theorem z192 : zeroT Tryz.prog 192 = some (.pointer none) := by kernel_rfl
theorem bd3 : bodyT Tryz.prog 3 = true := by kernel_rfl
theorem bd4 : bodyT Tryz.prog 4 = true := by kernel_rfl
theorem bd5 : bodyT Tryz.prog 5 = true := by kernel_rfl
theorem bd6 : bodyT Tryz.prog 6 = true := by kernel_rfl
theorem bd7 : bodyT Tryz.prog 7 = true := by kernel_rfl
theorem bd8 : bodyT Tryz.prog 8 = true := by kernel_rfl
theorem bd9 : bodyT Tryz.prog 9 = true := by kernel_rfl
theorem bd10 : bodyT Tryz.prog 10 = true := by kernel_rfl
theorem bd11 : bodyT Tryz.prog 11 = true := by kernel_rfl
theorem bd12 : bodyT Tryz.prog 12 = true := by kernel_rfl
theorem bd13 : bodyT Tryz.prog 13 = true := by kernel_rfl
theorem bd14 : bodyT Tryz.prog 14 = true := by kernel_rfl
theorem bd15 : bodyT Tryz.prog 15 = true := by kernel_rfl
theorem bd16 : bodyT Tryz.prog 16 = true := by kernel_rfl
theorem bd17 : bodyT Tryz.prog 17 = true := by kernel_rfl
theorem bd18 : bodyT Tryz.prog 18 = true := by kernel_rfl
theorem bd19 : bodyT Tryz.prog 19 = true := by kernel_rfl
theorem bd20 : bodyT Tryz.prog 20 = true := by kernel_rfl
theorem bd21 : bodyT Tryz.prog 21 = true := by kernel_rfl
theorem bd22 : bodyT Tryz.prog 22 = true := by kernel_rfl
theorem bd23 : bodyT Tryz.prog 23 = true := by kernel_rfl
theorem bd24 : bodyT Tryz.prog 24 = true := by kernel_rfl
theorem bd25 : bodyT Tryz.prog 25 = true := by kernel_rfl
theorem bd26 : bodyT Tryz.prog 26 = true := by kernel_rfl
theorem bd27 : bodyT Tryz.prog 27 = true := by kernel_rfl
theorem bd28 : bodyT Tryz.prog 28 = true := by kernel_rfl
theorem bd29 : bodyT Tryz.prog 29 = true := by kernel_rfl
theorem bd30 : bodyT Tryz.prog 30 = true := by kernel_rfl
theorem bd31 : bodyT Tryz.prog 31 = true := by kernel_rfl
theorem bd32 : bodyT Tryz.prog 32 = true := by kernel_rfl
theorem bd33 : bodyT Tryz.prog 33 = true := by kernel_rfl
theorem bd34 : bodyT Tryz.prog 34 = true := by kernel_rfl
theorem bd35 : bodyT Tryz.prog 35 = true := by kernel_rfl
theorem bd36 : bodyT Tryz.prog 36 = true := by kernel_rfl
theorem bd37 : bodyT Tryz.prog 37 = true := by kernel_rfl
theorem bd38 : bodyT Tryz.prog 38 = true := by kernel_rfl
theorem bd39 : bodyT Tryz.prog 39 = true := by kernel_rfl
theorem bd40 : bodyT Tryz.prog 40 = true := by kernel_rfl
theorem bd41 : bodyT Tryz.prog 41 = true := by kernel_rfl
theorem bd42 : bodyT Tryz.prog 42 = true := by kernel_rfl
theorem bd43 : bodyT Tryz.prog 43 = true := by kernel_rfl
theorem bd44 : bodyT Tryz.prog 44 = true := by kernel_rfl
theorem bd45 : bodyT Tryz.prog 45 = true := by kernel_rfl
theorem bd46 : bodyT Tryz.prog 46 = true := by kernel_rfl
theorem bd47 : bodyT Tryz.prog 47 = true := by kernel_rfl
theorem bd48 : bodyT Tryz.prog 48 = true := by kernel_rfl
theorem bd49 : bodyT Tryz.prog 49 = true := by kernel_rfl
theorem bd50 : bodyT Tryz.prog 50 = true := by kernel_rfl
theorem bd51 : bodyT Tryz.prog 51 = true := by kernel_rfl
theorem bd52 : bodyT Tryz.prog 52 = true := by kernel_rfl
theorem bd53 : bodyT Tryz.prog 53 = true := by kernel_rfl
theorem bd54 : bodyT Tryz.prog 54 = true := by kernel_rfl
theorem bd55 : bodyT Tryz.prog 55 = true := by kernel_rfl
theorem bd56 : bodyT Tryz.prog 56 = true := by kernel_rfl
theorem bd57 : bodyT Tryz.prog 57 = true := by kernel_rfl
theorem bd58 : bodyT Tryz.prog 58 = true := by kernel_rfl
theorem bd59 : bodyT Tryz.prog 59 = true := by kernel_rfl
theorem bd60 : bodyT Tryz.prog 60 = true := by kernel_rfl
theorem bd61 : bodyT Tryz.prog 61 = true := by kernel_rfl
theorem bd62 : bodyT Tryz.prog 62 = true := by kernel_rfl
theorem bd63 : bodyT Tryz.prog 63 = true := by kernel_rfl
theorem bd64 : bodyT Tryz.prog 64 = true := by kernel_rfl
theorem bd65 : bodyT Tryz.prog 65 = true := by kernel_rfl
theorem bd66 : bodyT Tryz.prog 66 = true := by kernel_rfl
theorem bd67 : bodyT Tryz.prog 67 = true := by kernel_rfl
theorem bd69 : bodyT Tryz.prog 69 = true := by kernel_rfl
theorem bd70 : bodyT Tryz.prog 70 = true := by kernel_rfl
theorem bd71 : bodyT Tryz.prog 71 = true := by kernel_rfl
theorem bd73 : bodyT Tryz.prog 73 = true := by kernel_rfl
theorem bd74 : bodyT Tryz.prog 74 = true := by kernel_rfl
theorem bd75 : bodyT Tryz.prog 75 = true := by kernel_rfl
theorem bd76 : bodyT Tryz.prog 76 = true := by kernel_rfl
theorem bd77 : bodyT Tryz.prog 77 = true := by kernel_rfl
theorem bd78 : bodyT Tryz.prog 78 = true := by kernel_rfl
theorem bd79 : bodyT Tryz.prog 79 = true := by kernel_rfl
theorem bd80 : bodyT Tryz.prog 80 = true := by kernel_rfl
theorem bd81 : bodyT Tryz.prog 81 = true := by kernel_rfl
theorem bd82 : bodyT Tryz.prog 82 = true := by kernel_rfl
theorem bd83 : bodyT Tryz.prog 83 = true := by kernel_rfl
theorem bd84 : bodyT Tryz.prog 84 = true := by kernel_rfl
theorem bd85 : bodyT Tryz.prog 85 = true := by kernel_rfl
theorem bd86 : bodyT Tryz.prog 86 = true := by kernel_rfl
theorem bd89 : bodyT Tryz.prog 89 = true := by kernel_rfl
theorem bd90 : bodyT Tryz.prog 90 = true := by kernel_rfl
theorem bd91 : bodyT Tryz.prog 91 = true := by kernel_rfl
theorem bd92 : bodyT Tryz.prog 92 = true := by kernel_rfl
theorem bd94 : bodyT Tryz.prog 94 = true := by kernel_rfl
theorem bd95 : bodyT Tryz.prog 95 = true := by kernel_rfl
theorem bd96 : bodyT Tryz.prog 96 = true := by kernel_rfl
theorem bd97 : bodyT Tryz.prog 97 = true := by kernel_rfl
theorem bd98 : bodyT Tryz.prog 98 = true := by kernel_rfl
theorem bd99 : bodyT Tryz.prog 99 = true := by kernel_rfl
theorem bd100 : bodyT Tryz.prog 100 = true := by kernel_rfl
theorem bd101 : bodyT Tryz.prog 101 = true := by kernel_rfl
theorem bd102 : bodyT Tryz.prog 102 = true := by kernel_rfl
theorem bd103 : bodyT Tryz.prog 103 = true := by kernel_rfl
theorem bd104 : bodyT Tryz.prog 104 = true := by kernel_rfl
theorem bd105 : bodyT Tryz.prog 105 = true := by kernel_rfl
theorem bd106 : bodyT Tryz.prog 106 = true := by kernel_rfl
theorem bd107 : bodyT Tryz.prog 107 = true := by kernel_rfl
theorem bd108 : bodyT Tryz.prog 108 = true := by kernel_rfl
end Ty
end Go.Proofs.YtohldionclgljaaGreat

/-
  Closed facts on the types and functions of this program: written by a program of this session (wip/tools/ty.py).
-/
import Derived.Test.YtohldionclgljaaProg
import Derived.Test.YtohldionclgljaaJ
namespace Go.Proofs.Ytohldionclgljaa
namespace Ty
open Go.J
theorem mixed : Try.prog.follows .mixedOrders = true := by kernel_rfl
theorem u2 : Try.prog.underlying 2 = some (.int .i64) := by kernel_rfl
theorem a2 : aggT Try.prog 2 = some false := by kernel_rfl
theorem s2 : sizeT Try.prog 2 = some 1 := by kernel_rfl
theorem b2 : bytesT Try.prog 2 = some 8 := by kernel_rfl
theorem z2 : zeroT Try.prog 2 = some (.int .i64 0) := by kernel_rfl
theorem u3 : Try.prog.underlying 3 = some (.int .i64) := by kernel_rfl
theorem a3 : aggT Try.prog 3 = some false := by kernel_rfl
theorem s3 : sizeT Try.prog 3 = some 1 := by kernel_rfl
theorem b3 : bytesT Try.prog 3 = some 8 := by kernel_rfl
theorem z3 : zeroT Try.prog 3 = some (.int .i64 0) := by kernel_rfl
theorem u4 : Try.prog.underlying 4 = some (.bool) := by kernel_rfl
theorem a4 : aggT Try.prog 4 = some false := by kernel_rfl
theorem s4 : sizeT Try.prog 4 = some 1 := by kernel_rfl
theorem b4 : bytesT Try.prog 4 = some 1 := by kernel_rfl
theorem z4 : zeroT Try.prog 4 = some (.bool false) := by kernel_rfl
theorem u5 : Try.prog.underlying 5 = some (.int .u8) := by kernel_rfl
theorem a5 : aggT Try.prog 5 = some false := by kernel_rfl
theorem s5 : sizeT Try.prog 5 = some 1 := by kernel_rfl
theorem b5 : bytesT Try.prog 5 = some 1 := by kernel_rfl
theorem z5 : zeroT Try.prog 5 = some (.int .u8 0) := by kernel_rfl
theorem u6 : Try.prog.underlying 6 = some (.int .u8) := by kernel_rfl
theorem a6 : aggT Try.prog 6 = some false := by kernel_rfl
theorem s6 : sizeT Try.prog 6 = some 1 := by kernel_rfl
theorem b6 : bytesT Try.prog 6 = some 1 := by kernel_rfl
theorem z6 : zeroT Try.prog 6 = some (.int .u8 0) := by kernel_rfl
theorem a7 : aggT Try.prog 7 = some true := by kernel_rfl
theorem s7 : sizeT Try.prog 7 = some 4 := by kernel_rfl
theorem b7 : bytesT Try.prog 7 = some 24 := by kernel_rfl
theorem z7 : zeroT Try.prog 7 = some (.agg ([.int .i64 0, .int .i64 0, .bool false, .int .u8 0] : List Value).toArray) := by kernel_rfl
theorem pl7 : placesT Try.prog 7 = some [(0, 1), (1, 1), (2, 1), (3, 1)] := by kernel_rfl
theorem fd7_0 : fieldT Try.prog 7 0 = some 0 := by kernel_rfl
theorem fd7_1 : fieldT Try.prog 7 1 = some 1 := by kernel_rfl
theorem fd7_2 : fieldT Try.prog 7 2 = some 2 := by kernel_rfl
theorem fd7_3 : fieldT Try.prog 7 3 = some 3 := by kernel_rfl
theorem a8 : aggT Try.prog 8 = some true := by kernel_rfl
theorem s8 : sizeT Try.prog 8 = some 4 := by kernel_rfl
theorem b8 : bytesT Try.prog 8 = some 24 := by kernel_rfl
theorem z8 : zeroT Try.prog 8 = some (.agg ([.int .i64 0, .int .i64 0, .bool false, .int .u8 0] : List Value).toArray) := by kernel_rfl
theorem pl8 : placesT Try.prog 8 = some [(0, 1), (1, 1), (2, 1), (3, 1)] := by kernel_rfl
theorem fd8_0 : fieldT Try.prog 8 0 = some 0 := by kernel_rfl
theorem fd8_1 : fieldT Try.prog 8 1 = some 1 := by kernel_rfl
theorem fd8_2 : fieldT Try.prog 8 2 = some 2 := by kernel_rfl
theorem fd8_3 : fieldT Try.prog 8 3 = some 3 := by kernel_rfl
theorem u9 : Try.prog.underlying 9 = some (.string) := by kernel_rfl
theorem a9 : aggT Try.prog 9 = some false := by kernel_rfl
theorem s9 : sizeT Try.prog 9 = some 1 := by kernel_rfl
theorem b9 : bytesT Try.prog 9 = some 16 := by kernel_rfl
theorem z9 : zeroT Try.prog 9 = some (.string ByteArray.empty) := by kernel_rfl
theorem u10 : Try.prog.underlying 10 = some (.string) := by kernel_rfl
theorem a10 : aggT Try.prog 10 = some false := by kernel_rfl
theorem s10 : sizeT Try.prog 10 = some 1 := by kernel_rfl
theorem b10 : bytesT Try.prog 10 = some 16 := by kernel_rfl
theorem z10 : zeroT Try.prog 10 = some (.string ByteArray.empty) := by kernel_rfl
theorem u11 : Try.prog.underlying 11 = some (.string) := by kernel_rfl
theorem a11 : aggT Try.prog 11 = some false := by kernel_rfl
theorem s11 : sizeT Try.prog 11 = some 1 := by kernel_rfl
theorem b11 : bytesT Try.prog 11 = some 16 := by kernel_rfl
theorem z11 : zeroT Try.prog 11 = some (.string ByteArray.empty) := by kernel_rfl
theorem u12 : Try.prog.underlying 12 = some (.int .u64) := by kernel_rfl
theorem a12 : aggT Try.prog 12 = some false := by kernel_rfl
theorem s12 : sizeT Try.prog 12 = some 1 := by kernel_rfl
theorem b12 : bytesT Try.prog 12 = some 8 := by kernel_rfl
theorem z12 : zeroT Try.prog 12 = some (.int .u64 0) := by kernel_rfl
theorem a13 : aggT Try.prog 13 = some true := by kernel_rfl
theorem s13 : sizeT Try.prog 13 = some 2 := by kernel_rfl
theorem b13 : bytesT Try.prog 13 = some 24 := by kernel_rfl
theorem z13 : zeroT Try.prog 13 = some (.agg ([.string ByteArray.empty, .int .u64 0] : List Value).toArray) := by kernel_rfl
theorem pl13 : placesT Try.prog 13 = some [(0, 1), (1, 1)] := by kernel_rfl
theorem fd13_0 : fieldT Try.prog 13 0 = some 0 := by kernel_rfl
theorem fd13_1 : fieldT Try.prog 13 1 = some 1 := by kernel_rfl
theorem a14 : aggT Try.prog 14 = some true := by kernel_rfl
theorem s14 : sizeT Try.prog 14 = some 2 := by kernel_rfl
theorem b14 : bytesT Try.prog 14 = some 24 := by kernel_rfl
theorem z14 : zeroT Try.prog 14 = some (.agg ([.string ByteArray.empty, .int .u64 0] : List Value).toArray) := by kernel_rfl
theorem pl14 : placesT Try.prog 14 = some [(0, 1), (1, 1)] := by kernel_rfl
theorem fd14_0 : fieldT Try.prog 14 0 = some 0 := by kernel_rfl
theorem fd14_1 : fieldT Try.prog 14 1 = some 1 := by kernel_rfl
theorem u15 : Try.prog.underlying 15 = some (.pointer 188) := by kernel_rfl
theorem a15 : aggT Try.prog 15 = some false := by kernel_rfl
theorem s15 : sizeT Try.prog 15 = some 1 := by kernel_rfl
theorem b15 : bytesT Try.prog 15 = some 8 := by kernel_rfl
theorem z15 : zeroT Try.prog 15 = some (.pointer none) := by kernel_rfl
theorem u16 : Try.prog.underlying 16 = some (.pointer 191) := by kernel_rfl
theorem a16 : aggT Try.prog 16 = some false := by kernel_rfl
theorem s16 : sizeT Try.prog 16 = some 1 := by kernel_rfl
theorem b16 : bytesT Try.prog 16 = some 8 := by kernel_rfl
theorem z16 : zeroT Try.prog 16 = some (.pointer none) := by kernel_rfl
theorem u17 : Try.prog.underlying 17 = some (.pointer 199) := by kernel_rfl
theorem a17 : aggT Try.prog 17 = some false := by kernel_rfl
theorem s17 : sizeT Try.prog 17 = some 1 := by kernel_rfl
theorem b17 : bytesT Try.prog 17 = some 8 := by kernel_rfl
theorem z17 : zeroT Try.prog 17 = some (.pointer none) := by kernel_rfl
theorem a18 : aggT Try.prog 18 = some true := by kernel_rfl
theorem s18 : sizeT Try.prog 18 = some 1 := by kernel_rfl
theorem b18 : bytesT Try.prog 18 = some 8 := by kernel_rfl
theorem z18 : zeroT Try.prog 18 = some (.agg ([.pointer none] : List Value).toArray) := by kernel_rfl
theorem pl18 : placesT Try.prog 18 = some [(0, 1)] := by kernel_rfl
theorem fd18_0 : fieldT Try.prog 18 0 = some 0 := by kernel_rfl
theorem a19 : aggT Try.prog 19 = some true := by kernel_rfl
theorem s19 : sizeT Try.prog 19 = some 1 := by kernel_rfl
theorem b19 : bytesT Try.prog 19 = some 8 := by kernel_rfl
theorem z19 : zeroT Try.prog 19 = some (.agg ([.pointer none] : List Value).toArray) := by kernel_rfl
theorem pl19 : placesT Try.prog 19 = some [(0, 1)] := by kernel_rfl
theorem fd19_0 : fieldT Try.prog 19 0 = some 0 := by kernel_rfl
theorem a20 : aggT Try.prog 20 = some false := by kernel_rfl
theorem s20 : sizeT Try.prog 20 = some 1 := by kernel_rfl
theorem b20 : bytesT Try.prog 20 = some 16 := by kernel_rfl
theorem z20 : zeroT Try.prog 20 = some (.nilIface) := by kernel_rfl
theorem u21 : Try.prog.underlying 21 = some (.int .i32) := by kernel_rfl
theorem a21 : aggT Try.prog 21 = some false := by kernel_rfl
theorem s21 : sizeT Try.prog 21 = some 1 := by kernel_rfl
theorem b21 : bytesT Try.prog 21 = some 4 := by kernel_rfl
theorem z21 : zeroT Try.prog 21 = some (.int .i32 0) := by kernel_rfl
theorem u22 : Try.prog.underlying 22 = some (.array 16 5) := by kernel_rfl
theorem a22 : aggT Try.prog 22 = some true := by kernel_rfl
theorem s22 : sizeT Try.prog 22 = some 16 := by kernel_rfl
theorem b22 : bytesT Try.prog 22 = some 16 := by kernel_rfl
theorem z22 : zeroT Try.prog 22 = some (.agg (List.replicate 16 (.int .u8 0) : List Value).toArray) := by kernel_rfl
theorem ar22 : arrT Try.prog 22 = some (16, 5) := by kernel_rfl
theorem u23 : Try.prog.underlying 23 = some (.array 16 5) := by kernel_rfl
theorem a23 : aggT Try.prog 23 = some true := by kernel_rfl
theorem s23 : sizeT Try.prog 23 = some 16 := by kernel_rfl
theorem b23 : bytesT Try.prog 23 = some 16 := by kernel_rfl
theorem z23 : zeroT Try.prog 23 = some (.agg (List.replicate 16 (.int .u8 0) : List Value).toArray) := by kernel_rfl
theorem ar23 : arrT Try.prog 23 = some (16, 5) := by kernel_rfl
theorem u24 : Try.prog.underlying 24 = some (.slice 53) := by kernel_rfl
theorem a24 : aggT Try.prog 24 = some false := by kernel_rfl
theorem s24 : sizeT Try.prog 24 = some 1 := by kernel_rfl
theorem b24 : bytesT Try.prog 24 = some 24 := by kernel_rfl
theorem z24 : zeroT Try.prog 24 = some (.slice none 0 0) := by kernel_rfl
theorem el24 : elemT Try.prog 24 = some 53 := by kernel_rfl
theorem u25 : Try.prog.underlying 25 = some (.slice 55) := by kernel_rfl
theorem a25 : aggT Try.prog 25 = some false := by kernel_rfl
theorem s25 : sizeT Try.prog 25 = some 1 := by kernel_rfl
theorem b25 : bytesT Try.prog 25 = some 24 := by kernel_rfl
theorem z25 : zeroT Try.prog 25 = some (.slice none 0 0) := by kernel_rfl
theorem el25 : elemT Try.prog 25 = some 55 := by kernel_rfl
theorem a26 : aggT Try.prog 26 = some true := by kernel_rfl
theorem s26 : sizeT Try.prog 26 = some 18 := by kernel_rfl
theorem b26 : bytesT Try.prog 26 = some 64 := by kernel_rfl
theorem z26 : zeroT Try.prog 26 = some (.agg (List.replicate 16 (.int .u8 0) ++ [.slice none 0 0, .slice none 0 0] : List Value).toArray) := by kernel_rfl
theorem pl26 : placesT Try.prog 26 = some [(0, 16), (16, 1), (17, 1)] := by kernel_rfl
theorem fd26_0 : fieldT Try.prog 26 0 = some 0 := by kernel_rfl
theorem fd26_1 : fieldT Try.prog 26 1 = some 16 := by kernel_rfl
theorem fd26_2 : fieldT Try.prog 26 2 = some 17 := by kernel_rfl
theorem a27 : aggT Try.prog 27 = some true := by kernel_rfl
theorem s27 : sizeT Try.prog 27 = some 18 := by kernel_rfl
theorem b27 : bytesT Try.prog 27 = some 64 := by kernel_rfl
theorem z27 : zeroT Try.prog 27 = some (.agg (List.replicate 16 (.int .u8 0) ++ [.slice none 0 0, .slice none 0 0] : List Value).toArray) := by kernel_rfl
theorem pl27 : placesT Try.prog 27 = some [(0, 16), (16, 1), (17, 1)] := by kernel_rfl
theorem fd27_0 : fieldT Try.prog 27 0 = some 0 := by kernel_rfl
theorem fd27_1 : fieldT Try.prog 27 1 = some 16 := by kernel_rfl
theorem fd27_2 : fieldT Try.prog 27 2 = some 17 := by kernel_rfl
theorem u28 : Try.prog.underlying 28 = some (.pointer 111) := by kernel_rfl
theorem a28 : aggT Try.prog 28 = some false := by kernel_rfl
theorem s28 : sizeT Try.prog 28 = some 1 := by kernel_rfl
theorem b28 : bytesT Try.prog 28 = some 8 := by kernel_rfl
theorem z28 : zeroT Try.prog 28 = some (.pointer none) := by kernel_rfl
theorem u32 : Try.prog.underlying 32 = some (.slice 40) := by kernel_rfl
theorem a32 : aggT Try.prog 32 = some false := by kernel_rfl
theorem s32 : sizeT Try.prog 32 = some 1 := by kernel_rfl
theorem b32 : bytesT Try.prog 32 = some 24 := by kernel_rfl
theorem z32 : zeroT Try.prog 32 = some (.slice none 0 0) := by kernel_rfl
theorem el32 : elemT Try.prog 32 = some 40 := by kernel_rfl
theorem u34 : Try.prog.underlying 34 = some (.slice 42) := by kernel_rfl
theorem a34 : aggT Try.prog 34 = some false := by kernel_rfl
theorem s34 : sizeT Try.prog 34 = some 1 := by kernel_rfl
theorem b34 : bytesT Try.prog 34 = some 24 := by kernel_rfl
theorem z34 : zeroT Try.prog 34 = some (.slice none 0 0) := by kernel_rfl
theorem el34 : elemT Try.prog 34 = some 42 := by kernel_rfl
theorem a37 : aggT Try.prog 37 = some true := by kernel_rfl
theorem s37 : sizeT Try.prog 37 = some 17 := by kernel_rfl
theorem b37 : bytesT Try.prog 37 = some 24 := by kernel_rfl
theorem z37 : zeroT Try.prog 37 = some (.agg (List.replicate 16 (.int .u8 0) ++ [.int .i64 0] : List Value).toArray) := by kernel_rfl
theorem pl37 : placesT Try.prog 37 = some [(0, 16), (16, 1)] := by kernel_rfl
theorem fd37_0 : fieldT Try.prog 37 0 = some 0 := by kernel_rfl
theorem fd37_1 : fieldT Try.prog 37 1 = some 16 := by kernel_rfl
theorem a38 : aggT Try.prog 38 = some true := by kernel_rfl
theorem s38 : sizeT Try.prog 38 = some 17 := by kernel_rfl
theorem b38 : bytesT Try.prog 38 = some 24 := by kernel_rfl
theorem z38 : zeroT Try.prog 38 = some (.agg (List.replicate 16 (.int .u8 0) ++ [.int .i64 0] : List Value).toArray) := by kernel_rfl
theorem pl38 : placesT Try.prog 38 = some [(0, 16), (16, 1)] := by kernel_rfl
theorem fd38_0 : fieldT Try.prog 38 0 = some 0 := by kernel_rfl
theorem fd38_1 : fieldT Try.prog 38 1 = some 16 := by kernel_rfl
theorem a39 : aggT Try.prog 39 = some true := by kernel_rfl
theorem s39 : sizeT Try.prog 39 = some 35 := by kernel_rfl
theorem b39 : bytesT Try.prog 39 = some 56 := by kernel_rfl
theorem z39 : zeroT Try.prog 39 = some (.agg (List.replicate 16 (.int .u8 0) ++ [.bool false] ++ List.replicate 16 (.int .u8 0) ++ [.int .i64 0, .int .i64 0] : List Value).toArray) := by kernel_rfl
theorem pl39 : placesT Try.prog 39 = some [(0, 16), (16, 1), (17, 17), (34, 1)] := by kernel_rfl
theorem fd39_0 : fieldT Try.prog 39 0 = some 0 := by kernel_rfl
theorem fd39_1 : fieldT Try.prog 39 1 = some 16 := by kernel_rfl
theorem fd39_2 : fieldT Try.prog 39 2 = some 17 := by kernel_rfl
theorem fd39_3 : fieldT Try.prog 39 3 = some 34 := by kernel_rfl
theorem a40 : aggT Try.prog 40 = some true := by kernel_rfl
theorem s40 : sizeT Try.prog 40 = some 35 := by kernel_rfl
theorem b40 : bytesT Try.prog 40 = some 56 := by kernel_rfl
theorem z40 : zeroT Try.prog 40 = some (.agg (List.replicate 16 (.int .u8 0) ++ [.bool false] ++ List.replicate 16 (.int .u8 0) ++ [.int .i64 0, .int .i64 0] : List Value).toArray) := by kernel_rfl
theorem pl40 : placesT Try.prog 40 = some [(0, 16), (16, 1), (17, 17), (34, 1)] := by kernel_rfl
theorem fd40_0 : fieldT Try.prog 40 0 = some 0 := by kernel_rfl
theorem fd40_1 : fieldT Try.prog 40 1 = some 16 := by kernel_rfl
theorem fd40_2 : fieldT Try.prog 40 2 = some 17 := by kernel_rfl
theorem fd40_3 : fieldT Try.prog 40 3 = some 34 := by kernel_rfl
theorem a42 : aggT Try.prog 42 = some true := by kernel_rfl
theorem s42 : sizeT Try.prog 42 = some 35 := by kernel_rfl
theorem b42 : bytesT Try.prog 42 = some 56 := by kernel_rfl
theorem z42 : zeroT Try.prog 42 = some (.agg (List.replicate 16 (.int .u8 0) ++ [.bool false] ++ List.replicate 16 (.int .u8 0) ++ [.int .i64 0, .int .i64 0] : List Value).toArray) := by kernel_rfl
theorem pl42 : placesT Try.prog 42 = some [(0, 16), (16, 1), (17, 17), (34, 1)] := by kernel_rfl
theorem fd42_0 : fieldT Try.prog 42 0 = some 0 := by kernel_rfl
theorem fd42_1 : fieldT Try.prog 42 1 = some 16 := by kernel_rfl
theorem fd42_2 : fieldT Try.prog 42 2 = some 17 := by kernel_rfl
theorem fd42_3 : fieldT Try.prog 42 3 = some 34 := by kernel_rfl
theorem a52 : aggT Try.prog 52 = some true := by kernel_rfl
theorem s52 : sizeT Try.prog 52 = some 17 := by kernel_rfl
theorem b52 : bytesT Try.prog 52 = some 24 := by kernel_rfl
theorem z52 : zeroT Try.prog 52 = some (.agg ([.int .i64 0] ++ List.replicate 16 (.int .u8 0) : List Value).toArray) := by kernel_rfl
theorem pl52 : placesT Try.prog 52 = some [(0, 1), (1, 16)] := by kernel_rfl
theorem fd52_0 : fieldT Try.prog 52 0 = some 0 := by kernel_rfl
theorem fd52_1 : fieldT Try.prog 52 1 = some 1 := by kernel_rfl
theorem a53 : aggT Try.prog 53 = some true := by kernel_rfl
theorem s53 : sizeT Try.prog 53 = some 17 := by kernel_rfl
theorem b53 : bytesT Try.prog 53 = some 24 := by kernel_rfl
theorem z53 : zeroT Try.prog 53 = some (.agg ([.int .i64 0] ++ List.replicate 16 (.int .u8 0) : List Value).toArray) := by kernel_rfl
theorem pl53 : placesT Try.prog 53 = some [(0, 1), (1, 16)] := by kernel_rfl
theorem fd53_0 : fieldT Try.prog 53 0 = some 0 := by kernel_rfl
theorem fd53_1 : fieldT Try.prog 53 1 = some 1 := by kernel_rfl
theorem a54 : aggT Try.prog 54 = some true := by kernel_rfl
theorem s54 : sizeT Try.prog 54 = some 51 := by kernel_rfl
theorem b54 : bytesT Try.prog 54 = some 72 := by kernel_rfl
theorem z54 : zeroT Try.prog 54 = some (.agg (List.replicate 16 (.int .u8 0) ++ [.int .i64 0] ++ List.replicate 32 (.int .u8 0) ++ [.int .i64 0, .int .i64 0] : List Value).toArray) := by kernel_rfl
theorem pl54 : placesT Try.prog 54 = some [(0, 17), (17, 16), (33, 16), (49, 1), (50, 1)] := by kernel_rfl
theorem fd54_0 : fieldT Try.prog 54 0 = some 0 := by kernel_rfl
theorem fd54_1 : fieldT Try.prog 54 1 = some 17 := by kernel_rfl
theorem fd54_2 : fieldT Try.prog 54 2 = some 33 := by kernel_rfl
theorem fd54_3 : fieldT Try.prog 54 3 = some 49 := by kernel_rfl
theorem fd54_4 : fieldT Try.prog 54 4 = some 50 := by kernel_rfl
theorem a55 : aggT Try.prog 55 = some true := by kernel_rfl
theorem s55 : sizeT Try.prog 55 = some 51 := by kernel_rfl
theorem b55 : bytesT Try.prog 55 = some 72 := by kernel_rfl
theorem z55 : zeroT Try.prog 55 = some (.agg (List.replicate 16 (.int .u8 0) ++ [.int .i64 0] ++ List.replicate 32 (.int .u8 0) ++ [.int .i64 0, .int .i64 0] : List Value).toArray) := by kernel_rfl
theorem pl55 : placesT Try.prog 55 = some [(0, 17), (17, 16), (33, 16), (49, 1), (50, 1)] := by kernel_rfl
theorem fd55_0 : fieldT Try.prog 55 0 = some 0 := by kernel_rfl
theorem fd55_1 : fieldT Try.prog 55 1 = some 17 := by kernel_rfl
theorem fd55_2 : fieldT Try.prog 55 2 = some 33 := by kernel_rfl
theorem fd55_3 : fieldT Try.prog 55 3 = some 49 := by kernel_rfl
theorem fd55_4 : fieldT Try.prog 55 4 = some 50 := by kernel_rfl
theorem u59 : Try.prog.underlying 59 = some (.slice 3) := by kernel_rfl
theorem a59 : aggT Try.prog 59 = some false := by kernel_rfl
theorem s59 : sizeT Try.prog 59 = some 1 := by kernel_rfl
theorem b59 : bytesT Try.prog 59 = some 24 := by kernel_rfl
theorem z59 : zeroT Try.prog 59 = some (.slice none 0 0) := by kernel_rfl
theorem el59 : elemT Try.prog 59 = some 3 := by kernel_rfl
theorem u60 : Try.prog.underlying 60 = some (.slice 28) := by kernel_rfl
theorem a60 : aggT Try.prog 60 = some false := by kernel_rfl
theorem s60 : sizeT Try.prog 60 = some 1 := by kernel_rfl
theorem b60 : bytesT Try.prog 60 = some 24 := by kernel_rfl
theorem z60 : zeroT Try.prog 60 = some (.slice none 0 0) := by kernel_rfl
theorem el60 : elemT Try.prog 60 = some 28 := by kernel_rfl
theorem u63 : Try.prog.underlying 63 = some (.int .u64) := by kernel_rfl
theorem a63 : aggT Try.prog 63 = some false := by kernel_rfl
theorem s63 : sizeT Try.prog 63 = some 1 := by kernel_rfl
theorem b63 : bytesT Try.prog 63 = some 8 := by kernel_rfl
theorem z63 : zeroT Try.prog 63 = some (.int .u64 0) := by kernel_rfl
theorem u64 : Try.prog.underlying 64 = some (.slice 82) := by kernel_rfl
theorem a64 : aggT Try.prog 64 = some false := by kernel_rfl
theorem s64 : sizeT Try.prog 64 = some 1 := by kernel_rfl
theorem b64 : bytesT Try.prog 64 = some 24 := by kernel_rfl
theorem z64 : zeroT Try.prog 64 = some (.slice none 0 0) := by kernel_rfl
theorem el64 : elemT Try.prog 64 = some 82 := by kernel_rfl
theorem u65 : Try.prog.underlying 65 = some (.slice 38) := by kernel_rfl
theorem a65 : aggT Try.prog 65 = some false := by kernel_rfl
theorem s65 : sizeT Try.prog 65 = some 1 := by kernel_rfl
theorem b65 : bytesT Try.prog 65 = some 24 := by kernel_rfl
theorem z65 : zeroT Try.prog 65 = some (.slice none 0 0) := by kernel_rfl
theorem el65 : elemT Try.prog 65 = some 38 := by kernel_rfl
theorem a66 : aggT Try.prog 66 = some true := by kernel_rfl
theorem s66 : sizeT Try.prog 66 = some 2 := by kernel_rfl
theorem b66 : bytesT Try.prog 66 = some 48 := by kernel_rfl
theorem z66 : zeroT Try.prog 66 = some (.agg ([.slice none 0 0, .slice none 0 0] : List Value).toArray) := by kernel_rfl
theorem pl66 : placesT Try.prog 66 = some [(0, 1), (1, 1)] := by kernel_rfl
theorem fd66_0 : fieldT Try.prog 66 0 = some 0 := by kernel_rfl
theorem fd66_1 : fieldT Try.prog 66 1 = some 1 := by kernel_rfl
theorem a67 : aggT Try.prog 67 = some true := by kernel_rfl
theorem s67 : sizeT Try.prog 67 = some 2 := by kernel_rfl
theorem b67 : bytesT Try.prog 67 = some 48 := by kernel_rfl
theorem z67 : zeroT Try.prog 67 = some (.agg ([.slice none 0 0, .slice none 0 0] : List Value).toArray) := by kernel_rfl
theorem pl67 : placesT Try.prog 67 = some [(0, 1), (1, 1)] := by kernel_rfl
theorem fd67_0 : fieldT Try.prog 67 0 = some 0 := by kernel_rfl
theorem fd67_1 : fieldT Try.prog 67 1 = some 1 := by kernel_rfl
theorem a71 : aggT Try.prog 71 = some true := by kernel_rfl
theorem s71 : sizeT Try.prog 71 = some 2 := by kernel_rfl
theorem b71 : bytesT Try.prog 71 = some 16 := by kernel_rfl
theorem z71 : zeroT Try.prog 71 = some (.agg ([.int .i64 0, .int .i64 0] : List Value).toArray) := by kernel_rfl
theorem pl71 : placesT Try.prog 71 = some [(0, 1), (1, 1)] := by kernel_rfl
theorem fd71_0 : fieldT Try.prog 71 0 = some 0 := by kernel_rfl
theorem fd71_1 : fieldT Try.prog 71 1 = some 1 := by kernel_rfl
theorem a72 : aggT Try.prog 72 = some true := by kernel_rfl
theorem s72 : sizeT Try.prog 72 = some 2 := by kernel_rfl
theorem b72 : bytesT Try.prog 72 = some 16 := by kernel_rfl
theorem z72 : zeroT Try.prog 72 = some (.agg ([.int .i64 0, .int .i64 0] : List Value).toArray) := by kernel_rfl
theorem pl72 : placesT Try.prog 72 = some [(0, 1), (1, 1)] := by kernel_rfl
theorem fd72_0 : fieldT Try.prog 72 0 = some 0 := by kernel_rfl
theorem fd72_1 : fieldT Try.prog 72 1 = some 1 := by kernel_rfl
theorem u73 : Try.prog.underlying 73 = some (.slice 23) := by kernel_rfl
theorem a73 : aggT Try.prog 73 = some false := by kernel_rfl
theorem s73 : sizeT Try.prog 73 = some 1 := by kernel_rfl
theorem b73 : bytesT Try.prog 73 = some 24 := by kernel_rfl
theorem z73 : zeroT Try.prog 73 = some (.slice none 0 0) := by kernel_rfl
theorem el73 : elemT Try.prog 73 = some 23 := by kernel_rfl
theorem a74 : aggT Try.prog 74 = some true := by kernel_rfl
theorem s74 : sizeT Try.prog 74 = some 17 := by kernel_rfl
theorem b74 : bytesT Try.prog 74 = some 24 := by kernel_rfl
theorem z74 : zeroT Try.prog 74 = some (.agg ([.int .i64 0] ++ List.replicate 16 (.int .u8 0) : List Value).toArray) := by kernel_rfl
theorem pl74 : placesT Try.prog 74 = some [(0, 1), (1, 16)] := by kernel_rfl
theorem fd74_0 : fieldT Try.prog 74 0 = some 0 := by kernel_rfl
theorem fd74_1 : fieldT Try.prog 74 1 = some 1 := by kernel_rfl
theorem a75 : aggT Try.prog 75 = some true := by kernel_rfl
theorem s75 : sizeT Try.prog 75 = some 17 := by kernel_rfl
theorem b75 : bytesT Try.prog 75 = some 24 := by kernel_rfl
theorem z75 : zeroT Try.prog 75 = some (.agg ([.int .i64 0] ++ List.replicate 16 (.int .u8 0) : List Value).toArray) := by kernel_rfl
theorem pl75 : placesT Try.prog 75 = some [(0, 1), (1, 16)] := by kernel_rfl
theorem fd75_0 : fieldT Try.prog 75 0 = some 0 := by kernel_rfl
theorem fd75_1 : fieldT Try.prog 75 1 = some 1 := by kernel_rfl
theorem u76 : Try.prog.underlying 76 = some (.slice 5) := by kernel_rfl
theorem a76 : aggT Try.prog 76 = some false := by kernel_rfl
theorem s76 : sizeT Try.prog 76 = some 1 := by kernel_rfl
theorem b76 : bytesT Try.prog 76 = some 24 := by kernel_rfl
theorem z76 : zeroT Try.prog 76 = some (.slice none 0 0) := by kernel_rfl
theorem el76 : elemT Try.prog 76 = some 5 := by kernel_rfl
theorem a77 : aggT Try.prog 77 = some true := by kernel_rfl
theorem s77 : sizeT Try.prog 77 = some 34 := by kernel_rfl
theorem b77 : bytesT Try.prog 77 = some 64 := by kernel_rfl
theorem z77 : zeroT Try.prog 77 = some (.agg (List.replicate 16 (.int .u8 0) ++ [.int .i64 0] ++ List.replicate 16 (.int .u8 0) ++ [.slice none 0 0] : List Value).toArray) := by kernel_rfl
theorem pl77 : placesT Try.prog 77 = some [(0, 16), (16, 17), (33, 1)] := by kernel_rfl
theorem fd77_0 : fieldT Try.prog 77 0 = some 0 := by kernel_rfl
theorem fd77_1 : fieldT Try.prog 77 1 = some 16 := by kernel_rfl
theorem fd77_2 : fieldT Try.prog 77 2 = some 33 := by kernel_rfl
theorem a78 : aggT Try.prog 78 = some true := by kernel_rfl
theorem s78 : sizeT Try.prog 78 = some 34 := by kernel_rfl
theorem b78 : bytesT Try.prog 78 = some 64 := by kernel_rfl
theorem z78 : zeroT Try.prog 78 = some (.agg (List.replicate 16 (.int .u8 0) ++ [.int .i64 0] ++ List.replicate 16 (.int .u8 0) ++ [.slice none 0 0] : List Value).toArray) := by kernel_rfl
theorem pl78 : placesT Try.prog 78 = some [(0, 16), (16, 17), (33, 1)] := by kernel_rfl
theorem fd78_0 : fieldT Try.prog 78 0 = some 0 := by kernel_rfl
theorem fd78_1 : fieldT Try.prog 78 1 = some 16 := by kernel_rfl
theorem fd78_2 : fieldT Try.prog 78 2 = some 33 := by kernel_rfl
theorem a79 : aggT Try.prog 79 = some true := by kernel_rfl
theorem s79 : sizeT Try.prog 79 = some 95 := by kernel_rfl
theorem b79 : bytesT Try.prog 79 = some 264 := by kernel_rfl
theorem pl79 : placesT Try.prog 79 = some [(0, 1), (1, 17), (18, 1), (19, 16), (35, 16), (51, 1), (52, 2), (54, 2), (56, 1), (57, 1), (58, 34), (92, 1), (93, 1), (94, 1)] := by kernel_rfl
theorem fd79_0 : fieldT Try.prog 79 0 = some 0 := by kernel_rfl
theorem fd79_1 : fieldT Try.prog 79 1 = some 1 := by kernel_rfl
theorem fd79_2 : fieldT Try.prog 79 2 = some 18 := by kernel_rfl
theorem fd79_3 : fieldT Try.prog 79 3 = some 19 := by kernel_rfl
theorem fd79_4 : fieldT Try.prog 79 4 = some 35 := by kernel_rfl
theorem fd79_5 : fieldT Try.prog 79 5 = some 51 := by kernel_rfl
theorem fd79_6 : fieldT Try.prog 79 6 = some 52 := by kernel_rfl
theorem fd79_7 : fieldT Try.prog 79 7 = some 54 := by kernel_rfl
theorem fd79_8 : fieldT Try.prog 79 8 = some 56 := by kernel_rfl
theorem fd79_9 : fieldT Try.prog 79 9 = some 57 := by kernel_rfl
theorem fd79_10 : fieldT Try.prog 79 10 = some 58 := by kernel_rfl
theorem fd79_11 : fieldT Try.prog 79 11 = some 92 := by kernel_rfl
theorem fd79_12 : fieldT Try.prog 79 12 = some 93 := by kernel_rfl
theorem fd79_13 : fieldT Try.prog 79 13 = some 94 := by kernel_rfl
theorem a80 : aggT Try.prog 80 = some true := by kernel_rfl
theorem s80 : sizeT Try.prog 80 = some 95 := by kernel_rfl
theorem b80 : bytesT Try.prog 80 = some 264 := by kernel_rfl
theorem pl80 : placesT Try.prog 80 = some [(0, 1), (1, 17), (18, 1), (19, 16), (35, 16), (51, 1), (52, 2), (54, 2), (56, 1), (57, 1), (58, 34), (92, 1), (93, 1), (94, 1)] := by kernel_rfl
theorem fd80_0 : fieldT Try.prog 80 0 = some 0 := by kernel_rfl
theorem fd80_1 : fieldT Try.prog 80 1 = some 1 := by kernel_rfl
theorem fd80_2 : fieldT Try.prog 80 2 = some 18 := by kernel_rfl
theorem fd80_3 : fieldT Try.prog 80 3 = some 19 := by kernel_rfl
theorem fd80_4 : fieldT Try.prog 80 4 = some 35 := by kernel_rfl
theorem fd80_5 : fieldT Try.prog 80 5 = some 51 := by kernel_rfl
theorem fd80_6 : fieldT Try.prog 80 6 = some 52 := by kernel_rfl
theorem fd80_7 : fieldT Try.prog 80 7 = some 54 := by kernel_rfl
theorem fd80_8 : fieldT Try.prog 80 8 = some 56 := by kernel_rfl
theorem fd80_9 : fieldT Try.prog 80 9 = some 57 := by kernel_rfl
theorem fd80_10 : fieldT Try.prog 80 10 = some 58 := by kernel_rfl
theorem fd80_11 : fieldT Try.prog 80 11 = some 92 := by kernel_rfl
theorem fd80_12 : fieldT Try.prog 80 12 = some 93 := by kernel_rfl
theorem fd80_13 : fieldT Try.prog 80 13 = some 94 := by kernel_rfl
theorem a81 : aggT Try.prog 81 = some true := by kernel_rfl
theorem s81 : sizeT Try.prog 81 = some 96 := by kernel_rfl
theorem b81 : bytesT Try.prog 81 = some 272 := by kernel_rfl
theorem pl81 : placesT Try.prog 81 = some [(0, 1), (1, 95)] := by kernel_rfl
theorem fd81_0 : fieldT Try.prog 81 0 = some 0 := by kernel_rfl
theorem fd81_1 : fieldT Try.prog 81 1 = some 1 := by kernel_rfl
theorem a82 : aggT Try.prog 82 = some true := by kernel_rfl
theorem s82 : sizeT Try.prog 82 = some 96 := by kernel_rfl
theorem b82 : bytesT Try.prog 82 = some 272 := by kernel_rfl
theorem pl82 : placesT Try.prog 82 = some [(0, 1), (1, 95)] := by kernel_rfl
theorem fd82_0 : fieldT Try.prog 82 0 = some 0 := by kernel_rfl
theorem fd82_1 : fieldT Try.prog 82 1 = some 1 := by kernel_rfl
theorem u85 : Try.prog.underlying 85 = some (.pointer 94) := by kernel_rfl
theorem a85 : aggT Try.prog 85 = some false := by kernel_rfl
theorem s85 : sizeT Try.prog 85 = some 1 := by kernel_rfl
theorem b85 : bytesT Try.prog 85 = some 8 := by kernel_rfl
theorem z85 : zeroT Try.prog 85 = some (.pointer none) := by kernel_rfl
theorem a89 : aggT Try.prog 89 = some true := by kernel_rfl
theorem s89 : sizeT Try.prog 89 = some 2 := by kernel_rfl
theorem b89 : bytesT Try.prog 89 = some 48 := by kernel_rfl
theorem z89 : zeroT Try.prog 89 = some (.agg ([.slice none 0 0, .slice none 0 0] : List Value).toArray) := by kernel_rfl
theorem pl89 : placesT Try.prog 89 = some [(0, 1), (1, 1)] := by kernel_rfl
theorem fd89_0 : fieldT Try.prog 89 0 = some 0 := by kernel_rfl
theorem fd89_1 : fieldT Try.prog 89 1 = some 1 := by kernel_rfl
theorem a93 : aggT Try.prog 93 = some true := by kernel_rfl
theorem s93 : sizeT Try.prog 93 = some 2 := by kernel_rfl
theorem b93 : bytesT Try.prog 93 = some 32 := by kernel_rfl
theorem z93 : zeroT Try.prog 93 = some (.agg ([.slice none 0 0, .int .i64 0] : List Value).toArray) := by kernel_rfl
theorem pl93 : placesT Try.prog 93 = some [(0, 1), (1, 1)] := by kernel_rfl
theorem fd93_0 : fieldT Try.prog 93 0 = some 0 := by kernel_rfl
theorem fd93_1 : fieldT Try.prog 93 1 = some 1 := by kernel_rfl
theorem a94 : aggT Try.prog 94 = some true := by kernel_rfl
theorem s94 : sizeT Try.prog 94 = some 2 := by kernel_rfl
theorem b94 : bytesT Try.prog 94 = some 32 := by kernel_rfl
theorem z94 : zeroT Try.prog 94 = some (.agg ([.slice none 0 0, .int .i64 0] : List Value).toArray) := by kernel_rfl
theorem pl94 : placesT Try.prog 94 = some [(0, 1), (1, 1)] := by kernel_rfl
theorem fd94_0 : fieldT Try.prog 94 0 = some 0 := by kernel_rfl
theorem fd94_1 : fieldT Try.prog 94 1 = some 1 := by kernel_rfl
theorem u104 : Try.prog.underlying 104 = some (.int .i64) := by kernel_rfl
theorem a104 : aggT Try.prog 104 = some false := by kernel_rfl
theorem s104 : sizeT Try.prog 104 = some 1 := by kernel_rfl
theorem b104 : bytesT Try.prog 104 = some 8 := by kernel_rfl
theorem z104 : zeroT Try.prog 104 = some (.int .i64 0) := by kernel_rfl
theorem u109 : Try.prog.underlying 109 = some (.map 38 55) := by kernel_rfl
theorem a109 : aggT Try.prog 109 = some false := by kernel_rfl
theorem s109 : sizeT Try.prog 109 = some 1 := by kernel_rfl
theorem b109 : bytesT Try.prog 109 = some 8 := by kernel_rfl
theorem z109 : zeroT Try.prog 109 = some (.map none) := by kernel_rfl
theorem a110 : aggT Try.prog 110 = some true := by kernel_rfl
theorem s110 : sizeT Try.prog 110 = some 2 := by kernel_rfl
theorem b110 : bytesT Try.prog 110 = some 16 := by kernel_rfl
theorem z110 : zeroT Try.prog 110 = some (.agg ([.int .i64 0, .map none] : List Value).toArray) := by kernel_rfl
theorem pl110 : placesT Try.prog 110 = some [(0, 1), (1, 1)] := by kernel_rfl
theorem fd110_0 : fieldT Try.prog 110 0 = some 0 := by kernel_rfl
theorem fd110_1 : fieldT Try.prog 110 1 = some 1 := by kernel_rfl
theorem a111 : aggT Try.prog 111 = some true := by kernel_rfl
theorem s111 : sizeT Try.prog 111 = some 2 := by kernel_rfl
theorem b111 : bytesT Try.prog 111 = some 16 := by kernel_rfl
theorem z111 : zeroT Try.prog 111 = some (.agg ([.int .i64 0, .map none] : List Value).toArray) := by kernel_rfl
theorem pl111 : placesT Try.prog 111 = some [(0, 1), (1, 1)] := by kernel_rfl
theorem fd111_0 : fieldT Try.prog 111 0 = some 0 := by kernel_rfl
theorem fd111_1 : fieldT Try.prog 111 1 = some 1 := by kernel_rfl
theorem u119 : Try.prog.underlying 119 = some (.int .u64) := by kernel_rfl
theorem a119 : aggT Try.prog 119 = some false := by kernel_rfl
theorem s119 : sizeT Try.prog 119 = some 1 := by kernel_rfl
theorem b119 : bytesT Try.prog 119 = some 8 := by kernel_rfl
theorem z119 : zeroT Try.prog 119 = some (.int .u64 0) := by kernel_rfl
theorem u123 : Try.prog.underlying 123 = some (.pointer 67) := by kernel_rfl
theorem a123 : aggT Try.prog 123 = some false := by kernel_rfl
theorem s123 : sizeT Try.prog 123 = some 1 := by kernel_rfl
theorem b123 : bytesT Try.prog 123 = some 8 := by kernel_rfl
theorem z123 : zeroT Try.prog 123 = some (.pointer none) := by kernel_rfl
theorem a125 : aggT Try.prog 125 = some true := by kernel_rfl
theorem s125 : sizeT Try.prog 125 = some 17 := by kernel_rfl
theorem b125 : bytesT Try.prog 125 = some 24 := by kernel_rfl
theorem z125 : zeroT Try.prog 125 = some (.agg (List.replicate 16 (.int .u8 0) ++ [.int .i64 0] : List Value).toArray) := by kernel_rfl
theorem pl125 : placesT Try.prog 125 = some [(0, 17)] := by kernel_rfl
theorem fd125_0 : fieldT Try.prog 125 0 = some 0 := by kernel_rfl
theorem a126 : aggT Try.prog 126 = some true := by kernel_rfl
theorem s126 : sizeT Try.prog 126 = some 17 := by kernel_rfl
theorem b126 : bytesT Try.prog 126 = some 24 := by kernel_rfl
theorem z126 : zeroT Try.prog 126 = some (.agg (List.replicate 16 (.int .u8 0) ++ [.int .i64 0] : List Value).toArray) := by kernel_rfl
theorem pl126 : placesT Try.prog 126 = some [(0, 17)] := by kernel_rfl
theorem fd126_0 : fieldT Try.prog 126 0 = some 0 := by kernel_rfl
theorem u128 : Try.prog.underlying 128 = some (.pointer 89) := by kernel_rfl
theorem a128 : aggT Try.prog 128 = some false := by kernel_rfl
theorem s128 : sizeT Try.prog 128 = some 1 := by kernel_rfl
theorem b128 : bytesT Try.prog 128 = some 8 := by kernel_rfl
theorem z128 : zeroT Try.prog 128 = some (.pointer none) := by kernel_rfl
theorem a136 : aggT Try.prog 136 = some false := by kernel_rfl
theorem s136 : sizeT Try.prog 136 = some 1 := by kernel_rfl
theorem b136 : bytesT Try.prog 136 = some 16 := by kernel_rfl
theorem z136 : zeroT Try.prog 136 = some (.nilIface) := by kernel_rfl
theorem a137 : aggT Try.prog 137 = some false := by kernel_rfl
theorem s137 : sizeT Try.prog 137 = some 1 := by kernel_rfl
theorem b137 : bytesT Try.prog 137 = some 16 := by kernel_rfl
theorem z137 : zeroT Try.prog 137 = some (.nilIface) := by kernel_rfl
theorem a138 : aggT Try.prog 138 = some true := by kernel_rfl
theorem s138 : sizeT Try.prog 138 = some 20 := by kernel_rfl
theorem b138 : bytesT Try.prog 138 = some 48 := by kernel_rfl
theorem z138 : zeroT Try.prog 138 = some (.agg (List.replicate 4 (.int .i64 0) ++ List.replicate 16 (.int .u8 0) : List Value).toArray) := by kernel_rfl
theorem pl138 : placesT Try.prog 138 = some [(0, 2), (2, 2), (4, 16)] := by kernel_rfl
theorem fd138_0 : fieldT Try.prog 138 0 = some 0 := by kernel_rfl
theorem fd138_1 : fieldT Try.prog 138 1 = some 2 := by kernel_rfl
theorem fd138_2 : fieldT Try.prog 138 2 = some 4 := by kernel_rfl
theorem a139 : aggT Try.prog 139 = some true := by kernel_rfl
theorem s139 : sizeT Try.prog 139 = some 20 := by kernel_rfl
theorem b139 : bytesT Try.prog 139 = some 48 := by kernel_rfl
theorem z139 : zeroT Try.prog 139 = some (.agg (List.replicate 4 (.int .i64 0) ++ List.replicate 16 (.int .u8 0) : List Value).toArray) := by kernel_rfl
theorem pl139 : placesT Try.prog 139 = some [(0, 2), (2, 2), (4, 16)] := by kernel_rfl
theorem fd139_0 : fieldT Try.prog 139 0 = some 0 := by kernel_rfl
theorem fd139_1 : fieldT Try.prog 139 1 = some 2 := by kernel_rfl
theorem fd139_2 : fieldT Try.prog 139 2 = some 4 := by kernel_rfl
theorem a140 : aggT Try.prog 140 = some true := by kernel_rfl
theorem s140 : sizeT Try.prog 140 = some 6 := by kernel_rfl
theorem b140 : bytesT Try.prog 140 = some 64 := by kernel_rfl
theorem z140 : zeroT Try.prog 140 = some (.agg (List.replicate 5 (.int .i64 0) ++ [.slice none 0 0] : List Value).toArray) := by kernel_rfl
theorem pl140 : placesT Try.prog 140 = some [(0, 2), (2, 2), (4, 1), (5, 1)] := by kernel_rfl
theorem fd140_0 : fieldT Try.prog 140 0 = some 0 := by kernel_rfl
theorem fd140_1 : fieldT Try.prog 140 1 = some 2 := by kernel_rfl
theorem fd140_2 : fieldT Try.prog 140 2 = some 4 := by kernel_rfl
theorem fd140_3 : fieldT Try.prog 140 3 = some 5 := by kernel_rfl
theorem a141 : aggT Try.prog 141 = some true := by kernel_rfl
theorem s141 : sizeT Try.prog 141 = some 6 := by kernel_rfl
theorem b141 : bytesT Try.prog 141 = some 64 := by kernel_rfl
theorem z141 : zeroT Try.prog 141 = some (.agg (List.replicate 5 (.int .i64 0) ++ [.slice none 0 0] : List Value).toArray) := by kernel_rfl
theorem pl141 : placesT Try.prog 141 = some [(0, 2), (2, 2), (4, 1), (5, 1)] := by kernel_rfl
theorem fd141_0 : fieldT Try.prog 141 0 = some 0 := by kernel_rfl
theorem fd141_1 : fieldT Try.prog 141 1 = some 2 := by kernel_rfl
theorem fd141_2 : fieldT Try.prog 141 2 = some 4 := by kernel_rfl
theorem fd141_3 : fieldT Try.prog 141 3 = some 5 := by kernel_rfl
theorem a142 : aggT Try.prog 142 = some true := by kernel_rfl
theorem s142 : sizeT Try.prog 142 = some 5 := by kernel_rfl
theorem b142 : bytesT Try.prog 142 = some 40 := by kernel_rfl
theorem z142 : zeroT Try.prog 142 = some (.agg (List.replicate 5 (.int .i64 0) : List Value).toArray) := by kernel_rfl
theorem pl142 : placesT Try.prog 142 = some [(0, 2), (2, 2), (4, 1)] := by kernel_rfl
theorem fd142_0 : fieldT Try.prog 142 0 = some 0 := by kernel_rfl
theorem fd142_1 : fieldT Try.prog 142 1 = some 2 := by kernel_rfl
theorem fd142_2 : fieldT Try.prog 142 2 = some 4 := by kernel_rfl
theorem a143 : aggT Try.prog 143 = some true := by kernel_rfl
theorem s143 : sizeT Try.prog 143 = some 5 := by kernel_rfl
theorem b143 : bytesT Try.prog 143 = some 40 := by kernel_rfl
theorem z143 : zeroT Try.prog 143 = some (.agg (List.replicate 5 (.int .i64 0) : List Value).toArray) := by kernel_rfl
theorem pl143 : placesT Try.prog 143 = some [(0, 2), (2, 2), (4, 1)] := by kernel_rfl
theorem fd143_0 : fieldT Try.prog 143 0 = some 0 := by kernel_rfl
theorem fd143_1 : fieldT Try.prog 143 1 = some 2 := by kernel_rfl
theorem fd143_2 : fieldT Try.prog 143 2 = some 4 := by kernel_rfl
theorem a144 : aggT Try.prog 144 = some true := by kernel_rfl
theorem s144 : sizeT Try.prog 144 = some 50 := by kernel_rfl
theorem b144 : bytesT Try.prog 144 = some 80 := by kernel_rfl
theorem z144 : zeroT Try.prog 144 = some (.agg (List.replicate 16 (.int .u8 0) ++ [.int .i64 0] ++ List.replicate 32 (.int .u8 0) ++ [.slice none 0 0] : List Value).toArray) := by kernel_rfl
theorem pl144 : placesT Try.prog 144 = some [(0, 17), (17, 16), (33, 16), (49, 1)] := by kernel_rfl
theorem fd144_0 : fieldT Try.prog 144 0 = some 0 := by kernel_rfl
theorem fd144_1 : fieldT Try.prog 144 1 = some 17 := by kernel_rfl
theorem fd144_2 : fieldT Try.prog 144 2 = some 33 := by kernel_rfl
theorem fd144_3 : fieldT Try.prog 144 3 = some 49 := by kernel_rfl
theorem a145 : aggT Try.prog 145 = some true := by kernel_rfl
theorem s145 : sizeT Try.prog 145 = some 50 := by kernel_rfl
theorem b145 : bytesT Try.prog 145 = some 80 := by kernel_rfl
theorem z145 : zeroT Try.prog 145 = some (.agg (List.replicate 16 (.int .u8 0) ++ [.int .i64 0] ++ List.replicate 32 (.int .u8 0) ++ [.slice none 0 0] : List Value).toArray) := by kernel_rfl
theorem pl145 : placesT Try.prog 145 = some [(0, 17), (17, 16), (33, 16), (49, 1)] := by kernel_rfl
theorem fd145_0 : fieldT Try.prog 145 0 = some 0 := by kernel_rfl
theorem fd145_1 : fieldT Try.prog 145 1 = some 17 := by kernel_rfl
theorem fd145_2 : fieldT Try.prog 145 2 = some 33 := by kernel_rfl
theorem fd145_3 : fieldT Try.prog 145 3 = some 49 := by kernel_rfl
theorem a146 : aggT Try.prog 146 = some true := by kernel_rfl
theorem s146 : sizeT Try.prog 146 = some 18 := by kernel_rfl
theorem b146 : bytesT Try.prog 146 = some 32 := by kernel_rfl
theorem z146 : zeroT Try.prog 146 = some (.agg (List.replicate 16 (.int .u8 0) ++ [.int .i64 0, .bool false] : List Value).toArray) := by kernel_rfl
theorem pl146 : placesT Try.prog 146 = some [(0, 17), (17, 1)] := by kernel_rfl
theorem fd146_0 : fieldT Try.prog 146 0 = some 0 := by kernel_rfl
theorem fd146_1 : fieldT Try.prog 146 1 = some 17 := by kernel_rfl
theorem a147 : aggT Try.prog 147 = some true := by kernel_rfl
theorem s147 : sizeT Try.prog 147 = some 18 := by kernel_rfl
theorem b147 : bytesT Try.prog 147 = some 32 := by kernel_rfl
theorem z147 : zeroT Try.prog 147 = some (.agg (List.replicate 16 (.int .u8 0) ++ [.int .i64 0, .bool false] : List Value).toArray) := by kernel_rfl
theorem pl147 : placesT Try.prog 147 = some [(0, 17), (17, 1)] := by kernel_rfl
theorem fd147_0 : fieldT Try.prog 147 0 = some 0 := by kernel_rfl
theorem fd147_1 : fieldT Try.prog 147 1 = some 17 := by kernel_rfl
theorem a148 : aggT Try.prog 148 = some true := by kernel_rfl
theorem s148 : sizeT Try.prog 148 = some 19 := by kernel_rfl
theorem b148 : bytesT Try.prog 148 = some 56 := by kernel_rfl
theorem z148 : zeroT Try.prog 148 = some (.agg (List.replicate 16 (.int .u8 0) ++ [.int .i64 0, .bool false, .slice none 0 0] : List Value).toArray) := by kernel_rfl
theorem pl148 : placesT Try.prog 148 = some [(0, 17), (17, 1), (18, 1)] := by kernel_rfl
theorem fd148_0 : fieldT Try.prog 148 0 = some 0 := by kernel_rfl
theorem fd148_1 : fieldT Try.prog 148 1 = some 17 := by kernel_rfl
theorem fd148_2 : fieldT Try.prog 148 2 = some 18 := by kernel_rfl
theorem a149 : aggT Try.prog 149 = some true := by kernel_rfl
theorem s149 : sizeT Try.prog 149 = some 19 := by kernel_rfl
theorem b149 : bytesT Try.prog 149 = some 56 := by kernel_rfl
theorem z149 : zeroT Try.prog 149 = some (.agg (List.replicate 16 (.int .u8 0) ++ [.int .i64 0, .bool false, .slice none 0 0] : List Value).toArray) := by kernel_rfl
theorem pl149 : placesT Try.prog 149 = some [(0, 17), (17, 1), (18, 1)] := by kernel_rfl
theorem fd149_0 : fieldT Try.prog 149 0 = some 0 := by kernel_rfl
theorem fd149_1 : fieldT Try.prog 149 1 = some 17 := by kernel_rfl
theorem fd149_2 : fieldT Try.prog 149 2 = some 18 := by kernel_rfl
theorem a150 : aggT Try.prog 150 = some true := by kernel_rfl
theorem s150 : sizeT Try.prog 150 = some 52 := by kernel_rfl
theorem b150 : bytesT Try.prog 150 = some 96 := by kernel_rfl
theorem z150 : zeroT Try.prog 150 = some (.agg (List.replicate 32 (.int .u8 0) ++ [.int .i64 0] ++ List.replicate 16 (.int .u8 0) ++ [.int .i64 0, .bool false, .slice none 0 0] : List Value).toArray) := by kernel_rfl
theorem pl150 : placesT Try.prog 150 = some [(0, 16), (16, 16), (32, 1), (33, 17), (50, 1), (51, 1)] := by kernel_rfl
theorem fd150_0 : fieldT Try.prog 150 0 = some 0 := by kernel_rfl
theorem fd150_1 : fieldT Try.prog 150 1 = some 16 := by kernel_rfl
theorem fd150_2 : fieldT Try.prog 150 2 = some 32 := by kernel_rfl
theorem fd150_3 : fieldT Try.prog 150 3 = some 33 := by kernel_rfl
theorem fd150_4 : fieldT Try.prog 150 4 = some 50 := by kernel_rfl
theorem fd150_5 : fieldT Try.prog 150 5 = some 51 := by kernel_rfl
theorem a151 : aggT Try.prog 151 = some true := by kernel_rfl
theorem s151 : sizeT Try.prog 151 = some 52 := by kernel_rfl
theorem b151 : bytesT Try.prog 151 = some 96 := by kernel_rfl
theorem z151 : zeroT Try.prog 151 = some (.agg (List.replicate 32 (.int .u8 0) ++ [.int .i64 0] ++ List.replicate 16 (.int .u8 0) ++ [.int .i64 0, .bool false, .slice none 0 0] : List Value).toArray) := by kernel_rfl
theorem pl151 : placesT Try.prog 151 = some [(0, 16), (16, 16), (32, 1), (33, 17), (50, 1), (51, 1)] := by kernel_rfl
theorem fd151_0 : fieldT Try.prog 151 0 = some 0 := by kernel_rfl
theorem fd151_1 : fieldT Try.prog 151 1 = some 16 := by kernel_rfl
theorem fd151_2 : fieldT Try.prog 151 2 = some 32 := by kernel_rfl
theorem fd151_3 : fieldT Try.prog 151 3 = some 33 := by kernel_rfl
theorem fd151_4 : fieldT Try.prog 151 4 = some 50 := by kernel_rfl
theorem fd151_5 : fieldT Try.prog 151 5 = some 51 := by kernel_rfl
theorem a152 : aggT Try.prog 152 = some true := by kernel_rfl
theorem s152 : sizeT Try.prog 152 = some 17 := by kernel_rfl
theorem b152 : bytesT Try.prog 152 = some 24 := by kernel_rfl
theorem z152 : zeroT Try.prog 152 = some (.agg (List.replicate 16 (.int .u8 0) ++ [.int .i64 0] : List Value).toArray) := by kernel_rfl
theorem pl152 : placesT Try.prog 152 = some [(0, 16), (16, 1)] := by kernel_rfl
theorem fd152_0 : fieldT Try.prog 152 0 = some 0 := by kernel_rfl
theorem fd152_1 : fieldT Try.prog 152 1 = some 16 := by kernel_rfl
theorem a153 : aggT Try.prog 153 = some true := by kernel_rfl
theorem s153 : sizeT Try.prog 153 = some 17 := by kernel_rfl
theorem b153 : bytesT Try.prog 153 = some 24 := by kernel_rfl
theorem z153 : zeroT Try.prog 153 = some (.agg (List.replicate 16 (.int .u8 0) ++ [.int .i64 0] : List Value).toArray) := by kernel_rfl
theorem pl153 : placesT Try.prog 153 = some [(0, 16), (16, 1)] := by kernel_rfl
theorem fd153_0 : fieldT Try.prog 153 0 = some 0 := by kernel_rfl
theorem fd153_1 : fieldT Try.prog 153 1 = some 16 := by kernel_rfl
theorem a154 : aggT Try.prog 154 = some true := by kernel_rfl
theorem s154 : sizeT Try.prog 154 = some 70 := by kernel_rfl
theorem b154 : bytesT Try.prog 154 = some 144 := by kernel_rfl
theorem z154 : zeroT Try.prog 154 = some (.agg (List.replicate 32 (.int .u8 0) ++ [.int .i64 0, .int .i64 0, .int .i64 0] ++ List.replicate 16 (.int .u8 0) ++ [.int .i64 0] ++ List.replicate 16 (.int .u8 0) ++ [.slice none 0 0, .slice none 0 0] : List Value).toArray) := by kernel_rfl
theorem pl154 : placesT Try.prog 154 = some [(0, 16), (16, 16), (32, 1), (33, 1), (34, 1), (35, 34), (69, 1)] := by kernel_rfl
theorem fd154_0 : fieldT Try.prog 154 0 = some 0 := by kernel_rfl
theorem fd154_1 : fieldT Try.prog 154 1 = some 16 := by kernel_rfl
theorem fd154_2 : fieldT Try.prog 154 2 = some 32 := by kernel_rfl
theorem fd154_3 : fieldT Try.prog 154 3 = some 33 := by kernel_rfl
theorem fd154_4 : fieldT Try.prog 154 4 = some 34 := by kernel_rfl
theorem fd154_5 : fieldT Try.prog 154 5 = some 35 := by kernel_rfl
theorem fd154_6 : fieldT Try.prog 154 6 = some 69 := by kernel_rfl
theorem a155 : aggT Try.prog 155 = some true := by kernel_rfl
theorem s155 : sizeT Try.prog 155 = some 70 := by kernel_rfl
theorem b155 : bytesT Try.prog 155 = some 144 := by kernel_rfl
theorem z155 : zeroT Try.prog 155 = some (.agg (List.replicate 32 (.int .u8 0) ++ [.int .i64 0, .int .i64 0, .int .i64 0] ++ List.replicate 16 (.int .u8 0) ++ [.int .i64 0] ++ List.replicate 16 (.int .u8 0) ++ [.slice none 0 0, .slice none 0 0] : List Value).toArray) := by kernel_rfl
theorem pl155 : placesT Try.prog 155 = some [(0, 16), (16, 16), (32, 1), (33, 1), (34, 1), (35, 34), (69, 1)] := by kernel_rfl
theorem fd155_0 : fieldT Try.prog 155 0 = some 0 := by kernel_rfl
theorem fd155_1 : fieldT Try.prog 155 1 = some 16 := by kernel_rfl
theorem fd155_2 : fieldT Try.prog 155 2 = some 32 := by kernel_rfl
theorem fd155_3 : fieldT Try.prog 155 3 = some 33 := by kernel_rfl
theorem fd155_4 : fieldT Try.prog 155 4 = some 34 := by kernel_rfl
theorem fd155_5 : fieldT Try.prog 155 5 = some 35 := by kernel_rfl
theorem fd155_6 : fieldT Try.prog 155 6 = some 69 := by kernel_rfl
theorem a157 : aggT Try.prog 157 = some true := by kernel_rfl
theorem s157 : sizeT Try.prog 157 = some 52 := by kernel_rfl
theorem b157 : bytesT Try.prog 157 = some 96 := by kernel_rfl
theorem z157 : zeroT Try.prog 157 = some (.agg (List.replicate 16 (.int .u8 0) ++ [.int .i64 0, .bool false] ++ List.replicate 16 (.int .u8 0) ++ [.int .i64 0] ++ List.replicate 16 (.int .u8 0) ++ [.slice none 0 0] : List Value).toArray) := by kernel_rfl
theorem pl157 : placesT Try.prog 157 = some [(0, 17), (17, 1), (18, 34)] := by kernel_rfl
theorem fd157_0 : fieldT Try.prog 157 0 = some 0 := by kernel_rfl
theorem fd157_1 : fieldT Try.prog 157 1 = some 17 := by kernel_rfl
theorem fd157_2 : fieldT Try.prog 157 2 = some 18 := by kernel_rfl
theorem a158 : aggT Try.prog 158 = some true := by kernel_rfl
theorem s158 : sizeT Try.prog 158 = some 52 := by kernel_rfl
theorem b158 : bytesT Try.prog 158 = some 96 := by kernel_rfl
theorem z158 : zeroT Try.prog 158 = some (.agg (List.replicate 16 (.int .u8 0) ++ [.int .i64 0, .bool false] ++ List.replicate 16 (.int .u8 0) ++ [.int .i64 0] ++ List.replicate 16 (.int .u8 0) ++ [.slice none 0 0] : List Value).toArray) := by kernel_rfl
theorem pl158 : placesT Try.prog 158 = some [(0, 17), (17, 1), (18, 34)] := by kernel_rfl
theorem fd158_0 : fieldT Try.prog 158 0 = some 0 := by kernel_rfl
theorem fd158_1 : fieldT Try.prog 158 1 = some 17 := by kernel_rfl
theorem fd158_2 : fieldT Try.prog 158 2 = some 18 := by kernel_rfl
theorem a159 : aggT Try.prog 159 = some true := by kernel_rfl
theorem s159 : sizeT Try.prog 159 = some 51 := by kernel_rfl
theorem b159 : bytesT Try.prog 159 = some 72 := by kernel_rfl
theorem z159 : zeroT Try.prog 159 = some (.agg (List.replicate 16 (.int .u8 0) ++ [.int .i64 0, .bool false] ++ List.replicate 16 (.int .u8 0) ++ [.int .i64 0] ++ List.replicate 16 (.int .u8 0) : List Value).toArray) := by kernel_rfl
theorem pl159 : placesT Try.prog 159 = some [(0, 17), (17, 1), (18, 16), (34, 17)] := by kernel_rfl
theorem fd159_0 : fieldT Try.prog 159 0 = some 0 := by kernel_rfl
theorem fd159_1 : fieldT Try.prog 159 1 = some 17 := by kernel_rfl
theorem fd159_2 : fieldT Try.prog 159 2 = some 18 := by kernel_rfl
theorem fd159_3 : fieldT Try.prog 159 3 = some 34 := by kernel_rfl
theorem a160 : aggT Try.prog 160 = some true := by kernel_rfl
theorem s160 : sizeT Try.prog 160 = some 51 := by kernel_rfl
theorem b160 : bytesT Try.prog 160 = some 72 := by kernel_rfl
theorem z160 : zeroT Try.prog 160 = some (.agg (List.replicate 16 (.int .u8 0) ++ [.int .i64 0, .bool false] ++ List.replicate 16 (.int .u8 0) ++ [.int .i64 0] ++ List.replicate 16 (.int .u8 0) : List Value).toArray) := by kernel_rfl
theorem pl160 : placesT Try.prog 160 = some [(0, 17), (17, 1), (18, 16), (34, 17)] := by kernel_rfl
theorem fd160_0 : fieldT Try.prog 160 0 = some 0 := by kernel_rfl
theorem fd160_1 : fieldT Try.prog 160 1 = some 17 := by kernel_rfl
theorem fd160_2 : fieldT Try.prog 160 2 = some 18 := by kernel_rfl
theorem fd160_3 : fieldT Try.prog 160 3 = some 34 := by kernel_rfl
theorem u167 : Try.prog.underlying 167 = some (.int .i64) := by kernel_rfl
theorem a167 : aggT Try.prog 167 = some false := by kernel_rfl
theorem s167 : sizeT Try.prog 167 = some 1 := by kernel_rfl
theorem b167 : bytesT Try.prog 167 = some 8 := by kernel_rfl
theorem z167 : zeroT Try.prog 167 = some (.int .i64 0) := by kernel_rfl
theorem u175 : Try.prog.underlying 175 = some (.int .u32) := by kernel_rfl
theorem a175 : aggT Try.prog 175 = some false := by kernel_rfl
theorem s175 : sizeT Try.prog 175 = some 1 := by kernel_rfl
theorem b175 : bytesT Try.prog 175 = some 4 := by kernel_rfl
theorem z175 : zeroT Try.prog 175 = some (.int .u32 0) := by kernel_rfl
theorem u177 : Try.prog.underlying 177 = some (.int .u64) := by kernel_rfl
theorem a177 : aggT Try.prog 177 = some false := by kernel_rfl
theorem s177 : sizeT Try.prog 177 = some 1 := by kernel_rfl
theorem b177 : bytesT Try.prog 177 = some 8 := by kernel_rfl
theorem z177 : zeroT Try.prog 177 = some (.int .u64 0) := by kernel_rfl
theorem u181 : Try.prog.underlying 181 = some (.pointer 3) := by kernel_rfl
theorem a181 : aggT Try.prog 181 = some false := by kernel_rfl
theorem s181 : sizeT Try.prog 181 = some 1 := by kernel_rfl
theorem b181 : bytesT Try.prog 181 = some 8 := by kernel_rfl
theorem z181 : zeroT Try.prog 181 = some (.pointer none) := by kernel_rfl
theorem u183 : Try.prog.underlying 183 = some (.pointer 177) := by kernel_rfl
theorem a183 : aggT Try.prog 183 = some false := by kernel_rfl
theorem s183 : sizeT Try.prog 183 = some 1 := by kernel_rfl
theorem b183 : bytesT Try.prog 183 = some 8 := by kernel_rfl
theorem z183 : zeroT Try.prog 183 = some (.pointer none) := by kernel_rfl
theorem a187 : aggT Try.prog 187 = some true := by kernel_rfl
theorem s187 : sizeT Try.prog 187 = some 4 := by kernel_rfl
theorem b187 : bytesT Try.prog 187 = some 40 := by kernel_rfl
theorem z187 : zeroT Try.prog 187 = some (.agg ([.pointer none, .pointer none, .pointer none, .string ByteArray.empty] : List Value).toArray) := by kernel_rfl
theorem pl187 : placesT Try.prog 187 = some [(0, 1), (1, 1), (2, 1), (3, 1)] := by kernel_rfl
theorem fd187_0 : fieldT Try.prog 187 0 = some 0 := by kernel_rfl
theorem fd187_1 : fieldT Try.prog 187 1 = some 1 := by kernel_rfl
theorem fd187_2 : fieldT Try.prog 187 2 = some 2 := by kernel_rfl
theorem fd187_3 : fieldT Try.prog 187 3 = some 3 := by kernel_rfl
theorem a188 : aggT Try.prog 188 = some true := by kernel_rfl
theorem s188 : sizeT Try.prog 188 = some 4 := by kernel_rfl
theorem b188 : bytesT Try.prog 188 = some 40 := by kernel_rfl
theorem z188 : zeroT Try.prog 188 = some (.agg ([.pointer none, .pointer none, .pointer none, .string ByteArray.empty] : List Value).toArray) := by kernel_rfl
theorem pl188 : placesT Try.prog 188 = some [(0, 1), (1, 1), (2, 1), (3, 1)] := by kernel_rfl
theorem fd188_0 : fieldT Try.prog 188 0 = some 0 := by kernel_rfl
theorem fd188_1 : fieldT Try.prog 188 1 = some 1 := by kernel_rfl
theorem fd188_2 : fieldT Try.prog 188 2 = some 2 := by kernel_rfl
theorem fd188_3 : fieldT Try.prog 188 3 = some 3 := by kernel_rfl
theorem u189 : Try.prog.underlying 189 = some (.array 0 16) := by kernel_rfl
theorem a189 : aggT Try.prog 189 = some true := by kernel_rfl
theorem s189 : sizeT Try.prog 189 = some 0 := by kernel_rfl
theorem b189 : bytesT Try.prog 189 = some 0 := by kernel_rfl
theorem z189 : zeroT Try.prog 189 = some (.agg ([] : List Value).toArray) := by kernel_rfl
theorem ar189 : arrT Try.prog 189 = some (0, 16) := by kernel_rfl
theorem a190 : aggT Try.prog 190 = some true := by kernel_rfl
theorem s190 : sizeT Try.prog 190 = some 0 := by kernel_rfl
theorem b190 : bytesT Try.prog 190 = some 0 := by kernel_rfl
theorem z190 : zeroT Try.prog 190 = some (.agg ([] : List Value).toArray) := by kernel_rfl
theorem pl190 : placesT Try.prog 190 = some [(0, 0)] := by kernel_rfl
theorem a191 : aggT Try.prog 191 = some true := by kernel_rfl
theorem s191 : sizeT Try.prog 191 = some 0 := by kernel_rfl
theorem b191 : bytesT Try.prog 191 = some 0 := by kernel_rfl
theorem z191 : zeroT Try.prog 191 = some (.agg ([] : List Value).toArray) := by kernel_rfl
theorem pl191 : placesT Try.prog 191 = some [(0, 0)] := by kernel_rfl
theorem u192 : Try.prog.underlying 192 = some (.int .u8) := by kernel_rfl
theorem a192 : aggT Try.prog 192 = some false := by kernel_rfl
theorem s192 : sizeT Try.prog 192 = some 1 := by kernel_rfl
theorem b192 : bytesT Try.prog 192 = some 1 := by kernel_rfl
theorem z192 : zeroT Try.prog 192 = some (.int .u8 0) := by kernel_rfl
theorem u193 : Try.prog.underlying 193 = some (.int .u8) := by kernel_rfl
theorem a193 : aggT Try.prog 193 = some false := by kernel_rfl
theorem s193 : sizeT Try.prog 193 = some 1 := by kernel_rfl
theorem b193 : bytesT Try.prog 193 = some 1 := by kernel_rfl
theorem z193 : zeroT Try.prog 193 = some (.int .u8 0) := by kernel_rfl
theorem u195 : Try.prog.underlying 195 = some (.pointer 5) := by kernel_rfl
theorem a195 : aggT Try.prog 195 = some false := by kernel_rfl
theorem s195 : sizeT Try.prog 195 = some 1 := by kernel_rfl
theorem b195 : bytesT Try.prog 195 = some 8 := by kernel_rfl
theorem z195 : zeroT Try.prog 195 = some (.pointer none) := by kernel_rfl
theorem u196 : Try.prog.underlying 196 = some (.int .i32) := by kernel_rfl
theorem a196 : aggT Try.prog 196 = some false := by kernel_rfl
theorem s196 : sizeT Try.prog 196 = some 1 := by kernel_rfl
theorem b196 : bytesT Try.prog 196 = some 4 := by kernel_rfl
theorem z196 : zeroT Try.prog 196 = some (.int .i32 0) := by kernel_rfl
theorem u197 : Try.prog.underlying 197 = some (.int .i32) := by kernel_rfl
theorem a197 : aggT Try.prog 197 = some false := by kernel_rfl
theorem s197 : sizeT Try.prog 197 = some 1 := by kernel_rfl
theorem b197 : bytesT Try.prog 197 = some 4 := by kernel_rfl
theorem z197 : zeroT Try.prog 197 = some (.int .i32 0) := by kernel_rfl
theorem a198 : aggT Try.prog 198 = some true := by kernel_rfl
theorem s198 : sizeT Try.prog 198 = some 11 := by kernel_rfl
theorem b198 : bytesT Try.prog 198 = some 48 := by kernel_rfl
theorem z198 : zeroT Try.prog 198 = some (.agg ([.int .u64 0, .int .u64 0, .int .u32 0] ++ List.replicate 4 (.int .u8 0) ++ [.nilFunc, .pointer none, .int .i32 0, .int .i32 0] : List Value).toArray) := by kernel_rfl
theorem pl198 : placesT Try.prog 198 = some [(0, 1), (1, 1), (2, 1), (3, 1), (4, 1), (5, 1), (6, 1), (7, 1), (8, 1), (9, 1), (10, 1)] := by kernel_rfl
theorem fd198_0 : fieldT Try.prog 198 0 = some 0 := by kernel_rfl
theorem fd198_1 : fieldT Try.prog 198 1 = some 1 := by kernel_rfl
theorem fd198_2 : fieldT Try.prog 198 2 = some 2 := by kernel_rfl
theorem fd198_3 : fieldT Try.prog 198 3 = some 3 := by kernel_rfl
theorem fd198_4 : fieldT Try.prog 198 4 = some 4 := by kernel_rfl
theorem fd198_5 : fieldT Try.prog 198 5 = some 5 := by kernel_rfl
theorem fd198_6 : fieldT Try.prog 198 6 = some 6 := by kernel_rfl
theorem fd198_7 : fieldT Try.prog 198 7 = some 7 := by kernel_rfl
theorem fd198_8 : fieldT Try.prog 198 8 = some 8 := by kernel_rfl
theorem fd198_9 : fieldT Try.prog 198 9 = some 9 := by kernel_rfl
theorem fd198_10 : fieldT Try.prog 198 10 = some 10 := by kernel_rfl
theorem a199 : aggT Try.prog 199 = some true := by kernel_rfl
theorem s199 : sizeT Try.prog 199 = some 11 := by kernel_rfl
theorem b199 : bytesT Try.prog 199 = some 48 := by kernel_rfl
theorem z199 : zeroT Try.prog 199 = some (.agg ([.int .u64 0, .int .u64 0, .int .u32 0] ++ List.replicate 4 (.int .u8 0) ++ [.nilFunc, .pointer none, .int .i32 0, .int .i32 0] : List Value).toArray) := by kernel_rfl
theorem pl199 : placesT Try.prog 199 = some [(0, 1), (1, 1), (2, 1), (3, 1), (4, 1), (5, 1), (6, 1), (7, 1), (8, 1), (9, 1), (10, 1)] := by kernel_rfl
theorem fd199_0 : fieldT Try.prog 199 0 = some 0 := by kernel_rfl
theorem fd199_1 : fieldT Try.prog 199 1 = some 1 := by kernel_rfl
theorem fd199_2 : fieldT Try.prog 199 2 = some 2 := by kernel_rfl
theorem fd199_3 : fieldT Try.prog 199 3 = some 3 := by kernel_rfl
theorem fd199_4 : fieldT Try.prog 199 4 = some 4 := by kernel_rfl
theorem fd199_5 : fieldT Try.prog 199 5 = some 5 := by kernel_rfl
theorem fd199_6 : fieldT Try.prog 199 6 = some 6 := by kernel_rfl
theorem fd199_7 : fieldT Try.prog 199 7 = some 7 := by kernel_rfl
theorem fd199_8 : fieldT Try.prog 199 8 = some 8 := by kernel_rfl
theorem fd199_9 : fieldT Try.prog 199 9 = some 9 := by kernel_rfl
theorem fd199_10 : fieldT Try.prog 199 10 = some 10 := by kernel_rfl
theorem a201 : aggT Try.prog 201 = some false := by kernel_rfl
theorem s201 : sizeT Try.prog 201 = some 1 := by kernel_rfl
theorem b201 : bytesT Try.prog 201 = some 8 := by kernel_rfl
theorem z201 : zeroT Try.prog 201 = some (.pointer none) := by kernel_rfl
theorem bd3 : bodyT Try.prog 3 = true := by kernel_rfl
theorem bd4 : bodyT Try.prog 4 = true := by kernel_rfl
theorem bd5 : bodyT Try.prog 5 = true := by kernel_rfl
theorem bd6 : bodyT Try.prog 6 = true := by kernel_rfl
theorem bd7 : bodyT Try.prog 7 = true := by kernel_rfl
theorem bd8 : bodyT Try.prog 8 = true := by kernel_rfl
theorem bd9 : bodyT Try.prog 9 = true := by kernel_rfl
theorem bd10 : bodyT Try.prog 10 = true := by kernel_rfl
theorem bd11 : bodyT Try.prog 11 = true := by kernel_rfl
theorem bd12 : bodyT Try.prog 12 = true := by kernel_rfl
theorem bd13 : bodyT Try.prog 13 = true := by kernel_rfl
theorem bd14 : bodyT Try.prog 14 = true := by kernel_rfl
theorem bd15 : bodyT Try.prog 15 = true := by kernel_rfl
theorem bd16 : bodyT Try.prog 16 = true := by kernel_rfl
theorem bd17 : bodyT Try.prog 17 = true := by kernel_rfl
theorem bd18 : bodyT Try.prog 18 = true := by kernel_rfl
theorem bd19 : bodyT Try.prog 19 = true := by kernel_rfl
theorem bd20 : bodyT Try.prog 20 = true := by kernel_rfl
theorem bd21 : bodyT Try.prog 21 = true := by kernel_rfl
theorem bd22 : bodyT Try.prog 22 = true := by kernel_rfl
theorem bd23 : bodyT Try.prog 23 = true := by kernel_rfl
theorem bd24 : bodyT Try.prog 24 = true := by kernel_rfl
theorem bd25 : bodyT Try.prog 25 = true := by kernel_rfl
theorem bd26 : bodyT Try.prog 26 = true := by kernel_rfl
theorem bd27 : bodyT Try.prog 27 = true := by kernel_rfl
theorem bd28 : bodyT Try.prog 28 = true := by kernel_rfl
theorem bd29 : bodyT Try.prog 29 = true := by kernel_rfl
theorem bd30 : bodyT Try.prog 30 = true := by kernel_rfl
theorem bd31 : bodyT Try.prog 31 = true := by kernel_rfl
theorem bd32 : bodyT Try.prog 32 = true := by kernel_rfl
theorem bd33 : bodyT Try.prog 33 = true := by kernel_rfl
theorem bd34 : bodyT Try.prog 34 = true := by kernel_rfl
theorem bd35 : bodyT Try.prog 35 = true := by kernel_rfl
theorem bd36 : bodyT Try.prog 36 = true := by kernel_rfl
theorem bd37 : bodyT Try.prog 37 = true := by kernel_rfl
theorem bd38 : bodyT Try.prog 38 = true := by kernel_rfl
theorem bd39 : bodyT Try.prog 39 = true := by kernel_rfl
theorem bd40 : bodyT Try.prog 40 = true := by kernel_rfl
theorem bd41 : bodyT Try.prog 41 = true := by kernel_rfl
theorem bd42 : bodyT Try.prog 42 = true := by kernel_rfl
theorem bd43 : bodyT Try.prog 43 = true := by kernel_rfl
theorem bd44 : bodyT Try.prog 44 = true := by kernel_rfl
theorem bd45 : bodyT Try.prog 45 = true := by kernel_rfl
theorem bd46 : bodyT Try.prog 46 = true := by kernel_rfl
theorem bd47 : bodyT Try.prog 47 = true := by kernel_rfl
theorem bd48 : bodyT Try.prog 48 = true := by kernel_rfl
theorem bd49 : bodyT Try.prog 49 = true := by kernel_rfl
theorem bd50 : bodyT Try.prog 50 = true := by kernel_rfl
theorem bd51 : bodyT Try.prog 51 = true := by kernel_rfl
theorem bd52 : bodyT Try.prog 52 = true := by kernel_rfl
theorem bd53 : bodyT Try.prog 53 = true := by kernel_rfl
theorem bd54 : bodyT Try.prog 54 = true := by kernel_rfl
theorem bd55 : bodyT Try.prog 55 = true := by kernel_rfl
theorem bd56 : bodyT Try.prog 56 = true := by kernel_rfl
theorem bd57 : bodyT Try.prog 57 = true := by kernel_rfl
theorem bd58 : bodyT Try.prog 58 = true := by kernel_rfl
theorem bd59 : bodyT Try.prog 59 = true := by kernel_rfl
theorem bd60 : bodyT Try.prog 60 = true := by kernel_rfl
theorem bd61 : bodyT Try.prog 61 = true := by kernel_rfl
theorem bd62 : bodyT Try.prog 62 = true := by kernel_rfl
theorem bd63 : bodyT Try.prog 63 = true := by kernel_rfl
theorem bd64 : bodyT Try.prog 64 = true := by kernel_rfl
theorem bd65 : bodyT Try.prog 65 = true := by kernel_rfl
theorem bd66 : bodyT Try.prog 66 = true := by kernel_rfl
theorem bd67 : bodyT Try.prog 67 = true := by kernel_rfl
theorem bd68 : bodyT Try.prog 68 = true := by kernel_rfl
theorem bd69 : bodyT Try.prog 69 = true := by kernel_rfl
theorem bd70 : bodyT Try.prog 70 = true := by kernel_rfl
theorem bd71 : bodyT Try.prog 71 = true := by kernel_rfl
theorem bd72 : bodyT Try.prog 72 = true := by kernel_rfl
theorem bd73 : bodyT Try.prog 73 = true := by kernel_rfl
theorem bd74 : bodyT Try.prog 74 = true := by kernel_rfl
theorem bd75 : bodyT Try.prog 75 = true := by kernel_rfl
theorem bd76 : bodyT Try.prog 76 = true := by kernel_rfl
theorem bd77 : bodyT Try.prog 77 = true := by kernel_rfl
theorem bd78 : bodyT Try.prog 78 = true := by kernel_rfl
theorem bd79 : bodyT Try.prog 79 = true := by kernel_rfl
theorem bd80 : bodyT Try.prog 80 = true := by kernel_rfl
theorem bd81 : bodyT Try.prog 81 = true := by kernel_rfl
theorem bd82 : bodyT Try.prog 82 = true := by kernel_rfl
theorem bd84 : bodyT Try.prog 84 = true := by kernel_rfl
theorem bd85 : bodyT Try.prog 85 = true := by kernel_rfl
theorem bd87 : bodyT Try.prog 87 = true := by kernel_rfl
theorem bd88 : bodyT Try.prog 88 = true := by kernel_rfl
theorem bd89 : bodyT Try.prog 89 = true := by kernel_rfl
theorem bd90 : bodyT Try.prog 90 = true := by kernel_rfl
theorem bd91 : bodyT Try.prog 91 = true := by kernel_rfl
theorem bd92 : bodyT Try.prog 92 = true := by kernel_rfl
theorem bd93 : bodyT Try.prog 93 = true := by kernel_rfl
theorem bd94 : bodyT Try.prog 94 = true := by kernel_rfl
theorem bd97 : bodyT Try.prog 97 = true := by kernel_rfl
theorem bd98 : bodyT Try.prog 98 = true := by kernel_rfl
theorem bd100 : bodyT Try.prog 100 = true := by kernel_rfl
theorem bd101 : bodyT Try.prog 101 = true := by kernel_rfl
theorem bd102 : bodyT Try.prog 102 = true := by kernel_rfl
end Ty
end Go.Proofs.Ytohldionclgljaa

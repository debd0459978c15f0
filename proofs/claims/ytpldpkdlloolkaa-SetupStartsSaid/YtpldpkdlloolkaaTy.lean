/-
  Closed facts on the types and functions of this program: written by a program of this session (wip/tools/ty.py).
-/
import Derived.Test.YtpldpkdlloolkaaProg
import Derived.Test.YtpldpkdlloolkaaJ
namespace Go.Proofs.Ytpldpkdlloolkaa
namespace Ty
open Go.J
theorem mixed : Try.prog.follows .mixedOrders = true := by kernel_rfl
theorem u2 : Try.prog.underlying 2 = some (.int .i64) := by kernel_rfl
theorem a2 : aggT Try.prog 2 = some false := by kernel_rfl
theorem s2 : sizeT Try.prog 2 = some 1 := by kernel_rfl
theorem b2 : bytesT Try.prog 2 = some 8 := by kernel_rfl
theorem z2 : zeroT Try.prog 2 = some (.int .i64 0) := by kernel_rfl
theorem u3 : Try.prog.underlying 3 = some (.int .i64) := by kernel_rfl
theorem a3 : aggT Try.prog 3 = some false := by kernel_rfl
theorem s3 : sizeT Try.prog 3 = some 1 := by kernel_rfl
theorem b3 : bytesT Try.prog 3 = some 8 := by kernel_rfl
theorem z3 : zeroT Try.prog 3 = some (.int .i64 0) := by kernel_rfl
theorem u4 : Try.prog.underlying 4 = some (.bool) := by kernel_rfl
theorem a4 : aggT Try.prog 4 = some false := by kernel_rfl
theorem s4 : sizeT Try.prog 4 = some 1 := by kernel_rfl
theorem b4 : bytesT Try.prog 4 = some 1 := by kernel_rfl
theorem z4 : zeroT Try.prog 4 = some (.bool false) := by kernel_rfl
theorem u5 : Try.prog.underlying 5 = some (.int .u8) := by kernel_rfl
theorem a5 : aggT Try.prog 5 = some false := by kernel_rfl
theorem s5 : sizeT Try.prog 5 = some 1 := by kernel_rfl
theorem b5 : bytesT Try.prog 5 = some 1 := by kernel_rfl
theorem z5 : zeroT Try.prog 5 = some (.int .u8 0) := by kernel_rfl
theorem u6 : Try.prog.underlying 6 = some (.int .u8) := by kernel_rfl
theorem a6 : aggT Try.prog 6 = some false := by kernel_rfl
theorem s6 : sizeT Try.prog 6 = some 1 := by kernel_rfl
theorem b6 : bytesT Try.prog 6 = some 1 := by kernel_rfl
theorem z6 : zeroT Try.prog 6 = some (.int .u8 0) := by kernel_rfl
theorem a7 : aggT Try.prog 7 = some true := by kernel_rfl
theorem s7 : sizeT Try.prog 7 = some 4 := by kernel_rfl
theorem b7 : bytesT Try.prog 7 = some 24 := by kernel_rfl
theorem z7 : zeroT Try.prog 7 = some (.agg ([.int .i64 0, .int .i64 0, .bool false, .int .u8 0] : List Value).toArray) := by kernel_rfl
theorem pl7 : placesT Try.prog 7 = some [(0, 1), (1, 1), (2, 1), (3, 1)] := by kernel_rfl
theorem fd7_0 : fieldT Try.prog 7 0 = some 0 := by kernel_rfl
theorem fd7_1 : fieldT Try.prog 7 1 = some 1 := by kernel_rfl
theorem fd7_2 : fieldT Try.prog 7 2 = some 2 := by kernel_rfl
theorem fd7_3 : fieldT Try.prog 7 3 = some 3 := by kernel_rfl
theorem a8 : aggT Try.prog 8 = some true := by kernel_rfl
theorem s8 : sizeT Try.prog 8 = some 4 := by kernel_rfl
theorem b8 : bytesT Try.prog 8 = some 24 := by kernel_rfl
theorem z8 : zeroT Try.prog 8 = some (.agg ([.int .i64 0, .int .i64 0, .bool false, .int .u8 0] : List Value).toArray) := by kernel_rfl
theorem pl8 : placesT Try.prog 8 = some [(0, 1), (1, 1), (2, 1), (3, 1)] := by kernel_rfl
theorem fd8_0 : fieldT Try.prog 8 0 = some 0 := by kernel_rfl
theorem fd8_1 : fieldT Try.prog 8 1 = some 1 := by kernel_rfl
theorem fd8_2 : fieldT Try.prog 8 2 = some 2 := by kernel_rfl
theorem fd8_3 : fieldT Try.prog 8 3 = some 3 := by kernel_rfl
theorem u9 : Try.prog.underlying 9 = some (.string) := by kernel_rfl
theorem a9 : aggT Try.prog 9 = some false := by kernel_rfl
theorem s9 : sizeT Try.prog 9 = some 1 := by kernel_rfl
theorem b9 : bytesT Try.prog 9 = some 16 := by kernel_rfl
theorem z9 : zeroT Try.prog 9 = some (.string ByteArray.empty) := by kernel_rfl
theorem u10 : Try.prog.underlying 10 = some (.string) := by kernel_rfl
theorem a10 : aggT Try.prog 10 = some false := by kernel_rfl
theorem s10 : sizeT Try.prog 10 = some 1 := by kernel_rfl
theorem b10 : bytesT Try.prog 10 = some 16 := by kernel_rfl
theorem z10 : zeroT Try.prog 10 = some (.string ByteArray.empty) := by kernel_rfl
theorem u11 : Try.prog.underlying 11 = some (.string) := by kernel_rfl
theorem a11 : aggT Try.prog 11 = some false := by kernel_rfl
theorem s11 : sizeT Try.prog 11 = some 1 := by kernel_rfl
theorem b11 : bytesT Try.prog 11 = some 16 := by kernel_rfl
theorem z11 : zeroT Try.prog 11 = some (.string ByteArray.empty) := by kernel_rfl
theorem u12 : Try.prog.underlying 12 = some (.int .u64) := by kernel_rfl
theorem a12 : aggT Try.prog 12 = some false := by kernel_rfl
theorem s12 : sizeT Try.prog 12 = some 1 := by kernel_rfl
theorem b12 : bytesT Try.prog 12 = some 8 := by kernel_rfl
theorem z12 : zeroT Try.prog 12 = some (.int .u64 0) := by kernel_rfl
theorem a13 : aggT Try.prog 13 = some true := by kernel_rfl
theorem s13 : sizeT Try.prog 13 = some 2 := by kernel_rfl
theorem b13 : bytesT Try.prog 13 = some 24 := by kernel_rfl
theorem z13 : zeroT Try.prog 13 = some (.agg ([.string ByteArray.empty, .int .u64 0] : List Value).toArray) := by kernel_rfl
theorem pl13 : placesT Try.prog 13 = some [(0, 1), (1, 1)] := by kernel_rfl
theorem fd13_0 : fieldT Try.prog 13 0 = some 0 := by kernel_rfl
theorem fd13_1 : fieldT Try.prog 13 1 = some 1 := by kernel_rfl
theorem a14 : aggT Try.prog 14 = some true := by kernel_rfl
theorem s14 : sizeT Try.prog 14 = some 2 := by kernel_rfl
theorem b14 : bytesT Try.prog 14 = some 24 := by kernel_rfl
theorem z14 : zeroT Try.prog 14 = some (.agg ([.string ByteArray.empty, .int .u64 0] : List Value).toArray) := by kernel_rfl
theorem pl14 : placesT Try.prog 14 = some [(0, 1), (1, 1)] := by kernel_rfl
theorem fd14_0 : fieldT Try.prog 14 0 = some 0 := by kernel_rfl
theorem fd14_1 : fieldT Try.prog 14 1 = some 1 := by kernel_rfl
theorem u15 : Try.prog.underlying 15 = some (.pointer 180) := by kernel_rfl
theorem a15 : aggT Try.prog 15 = some false := by kernel_rfl
theorem s15 : sizeT Try.prog 15 = some 1 := by kernel_rfl
theorem b15 : bytesT Try.prog 15 = some 8 := by kernel_rfl
theorem z15 : zeroT Try.prog 15 = some (.pointer none) := by kernel_rfl
theorem u16 : Try.prog.underlying 16 = some (.pointer 183) := by kernel_rfl
theorem a16 : aggT Try.prog 16 = some false := by kernel_rfl
theorem s16 : sizeT Try.prog 16 = some 1 := by kernel_rfl
theorem b16 : bytesT Try.prog 16 = some 8 := by kernel_rfl
theorem z16 : zeroT Try.prog 16 = some (.pointer none) := by kernel_rfl
theorem u17 : Try.prog.underlying 17 = some (.pointer 191) := by kernel_rfl
theorem a17 : aggT Try.prog 17 = some false := by kernel_rfl
theorem s17 : sizeT Try.prog 17 = some 1 := by kernel_rfl
theorem b17 : bytesT Try.prog 17 = some 8 := by kernel_rfl
theorem z17 : zeroT Try.prog 17 = some (.pointer none) := by kernel_rfl
theorem a18 : aggT Try.prog 18 = some true := by kernel_rfl
theorem s18 : sizeT Try.prog 18 = some 1 := by kernel_rfl
theorem b18 : bytesT Try.prog 18 = some 8 := by kernel_rfl
theorem z18 : zeroT Try.prog 18 = some (.agg ([.pointer none] : List Value).toArray) := by kernel_rfl
theorem pl18 : placesT Try.prog 18 = some [(0, 1)] := by kernel_rfl
theorem fd18_0 : fieldT Try.prog 18 0 = some 0 := by kernel_rfl
theorem a19 : aggT Try.prog 19 = some true := by kernel_rfl
theorem s19 : sizeT Try.prog 19 = some 1 := by kernel_rfl
theorem b19 : bytesT Try.prog 19 = some 8 := by kernel_rfl
theorem z19 : zeroT Try.prog 19 = some (.agg ([.pointer none] : List Value).toArray) := by kernel_rfl
theorem pl19 : placesT Try.prog 19 = some [(0, 1)] := by kernel_rfl
theorem fd19_0 : fieldT Try.prog 19 0 = some 0 := by kernel_rfl
theorem a20 : aggT Try.prog 20 = some false := by kernel_rfl
theorem s20 : sizeT Try.prog 20 = some 1 := by kernel_rfl
theorem b20 : bytesT Try.prog 20 = some 16 := by kernel_rfl
theorem z20 : zeroT Try.prog 20 = some (.nilIface) := by kernel_rfl
theorem u21 : Try.prog.underlying 21 = some (.int .i32) := by kernel_rfl
theorem a21 : aggT Try.prog 21 = some false := by kernel_rfl
theorem s21 : sizeT Try.prog 21 = some 1 := by kernel_rfl
theorem b21 : bytesT Try.prog 21 = some 4 := by kernel_rfl
theorem z21 : zeroT Try.prog 21 = some (.int .i32 0) := by kernel_rfl
theorem u22 : Try.prog.underlying 22 = some (.array 16 5) := by kernel_rfl
theorem a22 : aggT Try.prog 22 = some true := by kernel_rfl
theorem s22 : sizeT Try.prog 22 = some 16 := by kernel_rfl
theorem b22 : bytesT Try.prog 22 = some 16 := by kernel_rfl
theorem z22 : zeroT Try.prog 22 = some (.agg (List.replicate 16 (.int .u8 0) : List Value).toArray) := by kernel_rfl
theorem ar22 : arrT Try.prog 22 = some (16, 5) := by kernel_rfl
theorem u23 : Try.prog.underlying 23 = some (.array 16 5) := by kernel_rfl
theorem a23 : aggT Try.prog 23 = some true := by kernel_rfl
theorem s23 : sizeT Try.prog 23 = some 16 := by kernel_rfl
theorem b23 : bytesT Try.prog 23 = some 16 := by kernel_rfl
theorem z23 : zeroT Try.prog 23 = some (.agg (List.replicate 16 (.int .u8 0) : List Value).toArray) := by kernel_rfl
theorem ar23 : arrT Try.prog 23 = some (16, 5) := by kernel_rfl
theorem a24 : aggT Try.prog 24 = some true := by kernel_rfl
theorem s24 : sizeT Try.prog 24 = some 17 := by kernel_rfl
theorem b24 : bytesT Try.prog 24 = some 24 := by kernel_rfl
theorem z24 : zeroT Try.prog 24 = some (.agg (List.replicate 16 (.int .u8 0) ++ [.int .i64 0] : List Value).toArray) := by kernel_rfl
theorem pl24 : placesT Try.prog 24 = some [(0, 16), (16, 1)] := by kernel_rfl
theorem fd24_0 : fieldT Try.prog 24 0 = some 0 := by kernel_rfl
theorem fd24_1 : fieldT Try.prog 24 1 = some 16 := by kernel_rfl
theorem a25 : aggT Try.prog 25 = some true := by kernel_rfl
theorem s25 : sizeT Try.prog 25 = some 17 := by kernel_rfl
theorem b25 : bytesT Try.prog 25 = some 24 := by kernel_rfl
theorem z25 : zeroT Try.prog 25 = some (.agg (List.replicate 16 (.int .u8 0) ++ [.int .i64 0] : List Value).toArray) := by kernel_rfl
theorem pl25 : placesT Try.prog 25 = some [(0, 16), (16, 1)] := by kernel_rfl
theorem fd25_0 : fieldT Try.prog 25 0 = some 0 := by kernel_rfl
theorem fd25_1 : fieldT Try.prog 25 1 = some 16 := by kernel_rfl
theorem u26 : Try.prog.underlying 26 = some (.slice 3) := by kernel_rfl
theorem a26 : aggT Try.prog 26 = some false := by kernel_rfl
theorem s26 : sizeT Try.prog 26 = some 1 := by kernel_rfl
theorem b26 : bytesT Try.prog 26 = some 24 := by kernel_rfl
theorem z26 : zeroT Try.prog 26 = some (.slice none 0 0) := by kernel_rfl
theorem el26 : elemT Try.prog 26 = some 3 := by kernel_rfl
theorem u28 : Try.prog.underlying 28 = some (.slice 4) := by kernel_rfl
theorem a28 : aggT Try.prog 28 = some false := by kernel_rfl
theorem s28 : sizeT Try.prog 28 = some 1 := by kernel_rfl
theorem b28 : bytesT Try.prog 28 = some 24 := by kernel_rfl
theorem z28 : zeroT Try.prog 28 = some (.slice none 0 0) := by kernel_rfl
theorem el28 : elemT Try.prog 28 = some 4 := by kernel_rfl
theorem u29 : Try.prog.underlying 29 = some (.pointer 101) := by kernel_rfl
theorem a29 : aggT Try.prog 29 = some false := by kernel_rfl
theorem s29 : sizeT Try.prog 29 = some 1 := by kernel_rfl
theorem b29 : bytesT Try.prog 29 = some 8 := by kernel_rfl
theorem z29 : zeroT Try.prog 29 = some (.pointer none) := by kernel_rfl
theorem u31 : Try.prog.underlying 31 = some (.int .i64) := by kernel_rfl
theorem a31 : aggT Try.prog 31 = some false := by kernel_rfl
theorem s31 : sizeT Try.prog 31 = some 1 := by kernel_rfl
theorem b31 : bytesT Try.prog 31 = some 8 := by kernel_rfl
theorem z31 : zeroT Try.prog 31 = some (.int .i64 0) := by kernel_rfl
theorem a33 : aggT Try.prog 33 = some true := by kernel_rfl
theorem s33 : sizeT Try.prog 33 = some 51 := by kernel_rfl
theorem b33 : bytesT Try.prog 33 = some 72 := by kernel_rfl
theorem z33 : zeroT Try.prog 33 = some (.agg (List.replicate 16 (.int .u8 0) ++ [.int .i64 0] ++ List.replicate 32 (.int .u8 0) ++ [.int .i64 0, .int .i64 0] : List Value).toArray) := by kernel_rfl
theorem pl33 : placesT Try.prog 33 = some [(0, 17), (17, 16), (33, 16), (49, 1), (50, 1)] := by kernel_rfl
theorem fd33_0 : fieldT Try.prog 33 0 = some 0 := by kernel_rfl
theorem fd33_1 : fieldT Try.prog 33 1 = some 17 := by kernel_rfl
theorem fd33_2 : fieldT Try.prog 33 2 = some 33 := by kernel_rfl
theorem fd33_3 : fieldT Try.prog 33 3 = some 49 := by kernel_rfl
theorem fd33_4 : fieldT Try.prog 33 4 = some 50 := by kernel_rfl
theorem a34 : aggT Try.prog 34 = some true := by kernel_rfl
theorem s34 : sizeT Try.prog 34 = some 51 := by kernel_rfl
theorem b34 : bytesT Try.prog 34 = some 72 := by kernel_rfl
theorem z34 : zeroT Try.prog 34 = some (.agg (List.replicate 16 (.int .u8 0) ++ [.int .i64 0] ++ List.replicate 32 (.int .u8 0) ++ [.int .i64 0, .int .i64 0] : List Value).toArray) := by kernel_rfl
theorem pl34 : placesT Try.prog 34 = some [(0, 17), (17, 16), (33, 16), (49, 1), (50, 1)] := by kernel_rfl
theorem fd34_0 : fieldT Try.prog 34 0 = some 0 := by kernel_rfl
theorem fd34_1 : fieldT Try.prog 34 1 = some 17 := by kernel_rfl
theorem fd34_2 : fieldT Try.prog 34 2 = some 33 := by kernel_rfl
theorem fd34_3 : fieldT Try.prog 34 3 = some 49 := by kernel_rfl
theorem fd34_4 : fieldT Try.prog 34 4 = some 50 := by kernel_rfl
theorem u35 : Try.prog.underlying 35 = some (.slice 54) := by kernel_rfl
theorem a35 : aggT Try.prog 35 = some false := by kernel_rfl
theorem s35 : sizeT Try.prog 35 = some 1 := by kernel_rfl
theorem b35 : bytesT Try.prog 35 = some 24 := by kernel_rfl
theorem z35 : zeroT Try.prog 35 = some (.slice none 0 0) := by kernel_rfl
theorem el35 : elemT Try.prog 35 = some 54 := by kernel_rfl
theorem a36 : aggT Try.prog 36 = some true := by kernel_rfl
theorem s36 : sizeT Try.prog 36 = some 3 := by kernel_rfl
theorem b36 : bytesT Try.prog 36 = some 32 := by kernel_rfl
theorem z36 : zeroT Try.prog 36 = some (.agg ([.slice none 0 0, .bool false, .bool false] : List Value).toArray) := by kernel_rfl
theorem pl36 : placesT Try.prog 36 = some [(0, 1), (1, 1), (2, 1)] := by kernel_rfl
theorem fd36_0 : fieldT Try.prog 36 0 = some 0 := by kernel_rfl
theorem fd36_1 : fieldT Try.prog 36 1 = some 1 := by kernel_rfl
theorem fd36_2 : fieldT Try.prog 36 2 = some 2 := by kernel_rfl
theorem a37 : aggT Try.prog 37 = some true := by kernel_rfl
theorem s37 : sizeT Try.prog 37 = some 3 := by kernel_rfl
theorem b37 : bytesT Try.prog 37 = some 32 := by kernel_rfl
theorem z37 : zeroT Try.prog 37 = some (.agg ([.slice none 0 0, .bool false, .bool false] : List Value).toArray) := by kernel_rfl
theorem pl37 : placesT Try.prog 37 = some [(0, 1), (1, 1), (2, 1)] := by kernel_rfl
theorem fd37_0 : fieldT Try.prog 37 0 = some 0 := by kernel_rfl
theorem fd37_1 : fieldT Try.prog 37 1 = some 1 := by kernel_rfl
theorem fd37_2 : fieldT Try.prog 37 2 = some 2 := by kernel_rfl
theorem a40 : aggT Try.prog 40 = some true := by kernel_rfl
theorem s40 : sizeT Try.prog 40 = some 17 := by kernel_rfl
theorem b40 : bytesT Try.prog 40 = some 24 := by kernel_rfl
theorem z40 : zeroT Try.prog 40 = some (.agg ([.int .i64 0] ++ List.replicate 16 (.int .u8 0) : List Value).toArray) := by kernel_rfl
theorem pl40 : placesT Try.prog 40 = some [(0, 1), (1, 16)] := by kernel_rfl
theorem fd40_0 : fieldT Try.prog 40 0 = some 0 := by kernel_rfl
theorem fd40_1 : fieldT Try.prog 40 1 = some 1 := by kernel_rfl
theorem a41 : aggT Try.prog 41 = some true := by kernel_rfl
theorem s41 : sizeT Try.prog 41 = some 17 := by kernel_rfl
theorem b41 : bytesT Try.prog 41 = some 24 := by kernel_rfl
theorem z41 : zeroT Try.prog 41 = some (.agg ([.int .i64 0] ++ List.replicate 16 (.int .u8 0) : List Value).toArray) := by kernel_rfl
theorem pl41 : placesT Try.prog 41 = some [(0, 1), (1, 16)] := by kernel_rfl
theorem fd41_0 : fieldT Try.prog 41 0 = some 0 := by kernel_rfl
theorem fd41_1 : fieldT Try.prog 41 1 = some 1 := by kernel_rfl
theorem a43 : aggT Try.prog 43 = some true := by kernel_rfl
theorem s43 : sizeT Try.prog 43 = some 2 := by kernel_rfl
theorem b43 : bytesT Try.prog 43 = some 16 := by kernel_rfl
theorem z43 : zeroT Try.prog 43 = some (.agg ([.int .i64 0, .int .i64 0] : List Value).toArray) := by kernel_rfl
theorem pl43 : placesT Try.prog 43 = some [(0, 1), (1, 1)] := by kernel_rfl
theorem fd43_0 : fieldT Try.prog 43 0 = some 0 := by kernel_rfl
theorem fd43_1 : fieldT Try.prog 43 1 = some 1 := by kernel_rfl
theorem a44 : aggT Try.prog 44 = some true := by kernel_rfl
theorem s44 : sizeT Try.prog 44 = some 2 := by kernel_rfl
theorem b44 : bytesT Try.prog 44 = some 16 := by kernel_rfl
theorem z44 : zeroT Try.prog 44 = some (.agg ([.int .i64 0, .int .i64 0] : List Value).toArray) := by kernel_rfl
theorem pl44 : placesT Try.prog 44 = some [(0, 1), (1, 1)] := by kernel_rfl
theorem fd44_0 : fieldT Try.prog 44 0 = some 0 := by kernel_rfl
theorem fd44_1 : fieldT Try.prog 44 1 = some 1 := by kernel_rfl
theorem u45 : Try.prog.underlying 45 = some (.slice 23) := by kernel_rfl
theorem a45 : aggT Try.prog 45 = some false := by kernel_rfl
theorem s45 : sizeT Try.prog 45 = some 1 := by kernel_rfl
theorem b45 : bytesT Try.prog 45 = some 24 := by kernel_rfl
theorem z45 : zeroT Try.prog 45 = some (.slice none 0 0) := by kernel_rfl
theorem el45 : elemT Try.prog 45 = some 23 := by kernel_rfl
theorem a46 : aggT Try.prog 46 = some true := by kernel_rfl
theorem s46 : sizeT Try.prog 46 = some 17 := by kernel_rfl
theorem b46 : bytesT Try.prog 46 = some 24 := by kernel_rfl
theorem z46 : zeroT Try.prog 46 = some (.agg ([.int .i64 0] ++ List.replicate 16 (.int .u8 0) : List Value).toArray) := by kernel_rfl
theorem pl46 : placesT Try.prog 46 = some [(0, 1), (1, 16)] := by kernel_rfl
theorem fd46_0 : fieldT Try.prog 46 0 = some 0 := by kernel_rfl
theorem fd46_1 : fieldT Try.prog 46 1 = some 1 := by kernel_rfl
theorem a47 : aggT Try.prog 47 = some true := by kernel_rfl
theorem s47 : sizeT Try.prog 47 = some 17 := by kernel_rfl
theorem b47 : bytesT Try.prog 47 = some 24 := by kernel_rfl
theorem z47 : zeroT Try.prog 47 = some (.agg ([.int .i64 0] ++ List.replicate 16 (.int .u8 0) : List Value).toArray) := by kernel_rfl
theorem pl47 : placesT Try.prog 47 = some [(0, 1), (1, 16)] := by kernel_rfl
theorem fd47_0 : fieldT Try.prog 47 0 = some 0 := by kernel_rfl
theorem fd47_1 : fieldT Try.prog 47 1 = some 1 := by kernel_rfl
theorem u48 : Try.prog.underlying 48 = some (.slice 5) := by kernel_rfl
theorem a48 : aggT Try.prog 48 = some false := by kernel_rfl
theorem s48 : sizeT Try.prog 48 = some 1 := by kernel_rfl
theorem b48 : bytesT Try.prog 48 = some 24 := by kernel_rfl
theorem z48 : zeroT Try.prog 48 = some (.slice none 0 0) := by kernel_rfl
theorem el48 : elemT Try.prog 48 = some 5 := by kernel_rfl
theorem a49 : aggT Try.prog 49 = some true := by kernel_rfl
theorem s49 : sizeT Try.prog 49 = some 34 := by kernel_rfl
theorem b49 : bytesT Try.prog 49 = some 64 := by kernel_rfl
theorem z49 : zeroT Try.prog 49 = some (.agg (List.replicate 16 (.int .u8 0) ++ [.int .i64 0] ++ List.replicate 16 (.int .u8 0) ++ [.slice none 0 0] : List Value).toArray) := by kernel_rfl
theorem pl49 : placesT Try.prog 49 = some [(0, 16), (16, 17), (33, 1)] := by kernel_rfl
theorem fd49_0 : fieldT Try.prog 49 0 = some 0 := by kernel_rfl
theorem fd49_1 : fieldT Try.prog 49 1 = some 16 := by kernel_rfl
theorem fd49_2 : fieldT Try.prog 49 2 = some 33 := by kernel_rfl
theorem a50 : aggT Try.prog 50 = some true := by kernel_rfl
theorem s50 : sizeT Try.prog 50 = some 34 := by kernel_rfl
theorem b50 : bytesT Try.prog 50 = some 64 := by kernel_rfl
theorem z50 : zeroT Try.prog 50 = some (.agg (List.replicate 16 (.int .u8 0) ++ [.int .i64 0] ++ List.replicate 16 (.int .u8 0) ++ [.slice none 0 0] : List Value).toArray) := by kernel_rfl
theorem pl50 : placesT Try.prog 50 = some [(0, 16), (16, 17), (33, 1)] := by kernel_rfl
theorem fd50_0 : fieldT Try.prog 50 0 = some 0 := by kernel_rfl
theorem fd50_1 : fieldT Try.prog 50 1 = some 16 := by kernel_rfl
theorem fd50_2 : fieldT Try.prog 50 2 = some 33 := by kernel_rfl
theorem a51 : aggT Try.prog 51 = some true := by kernel_rfl
theorem s51 : sizeT Try.prog 51 = some 95 := by kernel_rfl
theorem b51 : bytesT Try.prog 51 = some 264 := by kernel_rfl
theorem pl51 : placesT Try.prog 51 = some [(0, 1), (1, 17), (18, 1), (19, 16), (35, 16), (51, 1), (52, 2), (54, 2), (56, 1), (57, 1), (58, 34), (92, 1), (93, 1), (94, 1)] := by kernel_rfl
theorem fd51_0 : fieldT Try.prog 51 0 = some 0 := by kernel_rfl
theorem fd51_1 : fieldT Try.prog 51 1 = some 1 := by kernel_rfl
theorem fd51_2 : fieldT Try.prog 51 2 = some 18 := by kernel_rfl
theorem fd51_3 : fieldT Try.prog 51 3 = some 19 := by kernel_rfl
theorem fd51_4 : fieldT Try.prog 51 4 = some 35 := by kernel_rfl
theorem fd51_5 : fieldT Try.prog 51 5 = some 51 := by kernel_rfl
theorem fd51_6 : fieldT Try.prog 51 6 = some 52 := by kernel_rfl
theorem fd51_7 : fieldT Try.prog 51 7 = some 54 := by kernel_rfl
theorem fd51_8 : fieldT Try.prog 51 8 = some 56 := by kernel_rfl
theorem fd51_9 : fieldT Try.prog 51 9 = some 57 := by kernel_rfl
theorem fd51_10 : fieldT Try.prog 51 10 = some 58 := by kernel_rfl
theorem fd51_11 : fieldT Try.prog 51 11 = some 92 := by kernel_rfl
theorem fd51_12 : fieldT Try.prog 51 12 = some 93 := by kernel_rfl
theorem fd51_13 : fieldT Try.prog 51 13 = some 94 := by kernel_rfl
theorem a52 : aggT Try.prog 52 = some true := by kernel_rfl
theorem s52 : sizeT Try.prog 52 = some 95 := by kernel_rfl
theorem b52 : bytesT Try.prog 52 = some 264 := by kernel_rfl
theorem pl52 : placesT Try.prog 52 = some [(0, 1), (1, 17), (18, 1), (19, 16), (35, 16), (51, 1), (52, 2), (54, 2), (56, 1), (57, 1), (58, 34), (92, 1), (93, 1), (94, 1)] := by kernel_rfl
theorem fd52_0 : fieldT Try.prog 52 0 = some 0 := by kernel_rfl
theorem fd52_1 : fieldT Try.prog 52 1 = some 1 := by kernel_rfl
theorem fd52_2 : fieldT Try.prog 52 2 = some 18 := by kernel_rfl
theorem fd52_3 : fieldT Try.prog 52 3 = some 19 := by kernel_rfl
theorem fd52_4 : fieldT Try.prog 52 4 = some 35 := by kernel_rfl
theorem fd52_5 : fieldT Try.prog 52 5 = some 51 := by kernel_rfl
theorem fd52_6 : fieldT Try.prog 52 6 = some 52 := by kernel_rfl
theorem fd52_7 : fieldT Try.prog 52 7 = some 54 := by kernel_rfl
theorem fd52_8 : fieldT Try.prog 52 8 = some 56 := by kernel_rfl
theorem fd52_9 : fieldT Try.prog 52 9 = some 57 := by kernel_rfl
theorem fd52_10 : fieldT Try.prog 52 10 = some 58 := by kernel_rfl
theorem fd52_11 : fieldT Try.prog 52 11 = some 92 := by kernel_rfl
theorem fd52_12 : fieldT Try.prog 52 12 = some 93 := by kernel_rfl
theorem fd52_13 : fieldT Try.prog 52 13 = some 94 := by kernel_rfl
theorem a53 : aggT Try.prog 53 = some true := by kernel_rfl
theorem s53 : sizeT Try.prog 53 = some 96 := by kernel_rfl
theorem b53 : bytesT Try.prog 53 = some 272 := by kernel_rfl
theorem pl53 : placesT Try.prog 53 = some [(0, 1), (1, 95)] := by kernel_rfl
theorem fd53_0 : fieldT Try.prog 53 0 = some 0 := by kernel_rfl
theorem fd53_1 : fieldT Try.prog 53 1 = some 1 := by kernel_rfl
theorem a54 : aggT Try.prog 54 = some true := by kernel_rfl
theorem s54 : sizeT Try.prog 54 = some 96 := by kernel_rfl
theorem b54 : bytesT Try.prog 54 = some 272 := by kernel_rfl
theorem pl54 : placesT Try.prog 54 = some [(0, 1), (1, 95)] := by kernel_rfl
theorem fd54_0 : fieldT Try.prog 54 0 = some 0 := by kernel_rfl
theorem fd54_1 : fieldT Try.prog 54 1 = some 1 := by kernel_rfl
theorem u62 : Try.prog.underlying 62 = some (.slice 34) := by kernel_rfl
theorem a62 : aggT Try.prog 62 = some false := by kernel_rfl
theorem s62 : sizeT Try.prog 62 = some 1 := by kernel_rfl
theorem b62 : bytesT Try.prog 62 = some 24 := by kernel_rfl
theorem z62 : zeroT Try.prog 62 = some (.slice none 0 0) := by kernel_rfl
theorem el62 : elemT Try.prog 62 = some 34 := by kernel_rfl
theorem u74 : Try.prog.underlying 74 = some (.slice 76) := by kernel_rfl
theorem a74 : aggT Try.prog 74 = some false := by kernel_rfl
theorem s74 : sizeT Try.prog 74 = some 1 := by kernel_rfl
theorem b74 : bytesT Try.prog 74 = some 24 := by kernel_rfl
theorem z74 : zeroT Try.prog 74 = some (.slice none 0 0) := by kernel_rfl
theorem el74 : elemT Try.prog 74 = some 76 := by kernel_rfl
theorem a75 : aggT Try.prog 75 = some true := by kernel_rfl
theorem s75 : sizeT Try.prog 75 = some 53 := by kernel_rfl
theorem b75 : bytesT Try.prog 75 = some 88 := by kernel_rfl
theorem z75 : zeroT Try.prog 75 = some (.agg ([.int .i64 0, .int .i64 0] ++ List.replicate 16 (.int .u8 0) ++ [.int .i64 0] ++ List.replicate 32 (.int .u8 0) ++ [.int .i64 0, .int .i64 0] : List Value).toArray) := by kernel_rfl
theorem pl75 : placesT Try.prog 75 = some [(0, 1), (1, 1), (2, 51)] := by kernel_rfl
theorem fd75_0 : fieldT Try.prog 75 0 = some 0 := by kernel_rfl
theorem fd75_1 : fieldT Try.prog 75 1 = some 1 := by kernel_rfl
theorem fd75_2 : fieldT Try.prog 75 2 = some 2 := by kernel_rfl
theorem a76 : aggT Try.prog 76 = some true := by kernel_rfl
theorem s76 : sizeT Try.prog 76 = some 53 := by kernel_rfl
theorem b76 : bytesT Try.prog 76 = some 88 := by kernel_rfl
theorem z76 : zeroT Try.prog 76 = some (.agg ([.int .i64 0, .int .i64 0] ++ List.replicate 16 (.int .u8 0) ++ [.int .i64 0] ++ List.replicate 32 (.int .u8 0) ++ [.int .i64 0, .int .i64 0] : List Value).toArray) := by kernel_rfl
theorem pl76 : placesT Try.prog 76 = some [(0, 1), (1, 1), (2, 51)] := by kernel_rfl
theorem fd76_0 : fieldT Try.prog 76 0 = some 0 := by kernel_rfl
theorem fd76_1 : fieldT Try.prog 76 1 = some 1 := by kernel_rfl
theorem fd76_2 : fieldT Try.prog 76 2 = some 2 := by kernel_rfl
theorem u79 : Try.prog.underlying 79 = some (.pointer 82) := by kernel_rfl
theorem a79 : aggT Try.prog 79 = some false := by kernel_rfl
theorem s79 : sizeT Try.prog 79 = some 1 := by kernel_rfl
theorem b79 : bytesT Try.prog 79 = some 8 := by kernel_rfl
theorem z79 : zeroT Try.prog 79 = some (.pointer none) := by kernel_rfl
theorem a81 : aggT Try.prog 81 = some true := by kernel_rfl
theorem s81 : sizeT Try.prog 81 = some 2 := by kernel_rfl
theorem b81 : bytesT Try.prog 81 = some 32 := by kernel_rfl
theorem z81 : zeroT Try.prog 81 = some (.agg ([.slice none 0 0, .int .i64 0] : List Value).toArray) := by kernel_rfl
theorem pl81 : placesT Try.prog 81 = some [(0, 1), (1, 1)] := by kernel_rfl
theorem fd81_0 : fieldT Try.prog 81 0 = some 0 := by kernel_rfl
theorem fd81_1 : fieldT Try.prog 81 1 = some 1 := by kernel_rfl
theorem a82 : aggT Try.prog 82 = some true := by kernel_rfl
theorem s82 : sizeT Try.prog 82 = some 2 := by kernel_rfl
theorem b82 : bytesT Try.prog 82 = some 32 := by kernel_rfl
theorem z82 : zeroT Try.prog 82 = some (.agg ([.slice none 0 0, .int .i64 0] : List Value).toArray) := by kernel_rfl
theorem pl82 : placesT Try.prog 82 = some [(0, 1), (1, 1)] := by kernel_rfl
theorem fd82_0 : fieldT Try.prog 82 0 = some 0 := by kernel_rfl
theorem fd82_1 : fieldT Try.prog 82 1 = some 1 := by kernel_rfl
theorem a84 : aggT Try.prog 84 = some true := by kernel_rfl
theorem s84 : sizeT Try.prog 84 = some 20 := by kernel_rfl
theorem b84 : bytesT Try.prog 84 = some 80 := by kernel_rfl
theorem z84 : zeroT Try.prog 84 = some (.agg ([.slice none 0 0, .int .i64 0, .int .i64 0] ++ List.replicate 16 (.int .u8 0) ++ [.slice none 0 0] : List Value).toArray) := by kernel_rfl
theorem pl84 : placesT Try.prog 84 = some [(0, 1), (1, 1), (2, 17), (19, 1)] := by kernel_rfl
theorem fd84_0 : fieldT Try.prog 84 0 = some 0 := by kernel_rfl
theorem fd84_1 : fieldT Try.prog 84 1 = some 1 := by kernel_rfl
theorem fd84_2 : fieldT Try.prog 84 2 = some 2 := by kernel_rfl
theorem fd84_3 : fieldT Try.prog 84 3 = some 19 := by kernel_rfl
theorem a85 : aggT Try.prog 85 = some true := by kernel_rfl
theorem s85 : sizeT Try.prog 85 = some 20 := by kernel_rfl
theorem b85 : bytesT Try.prog 85 = some 80 := by kernel_rfl
theorem z85 : zeroT Try.prog 85 = some (.agg ([.slice none 0 0, .int .i64 0, .int .i64 0] ++ List.replicate 16 (.int .u8 0) ++ [.slice none 0 0] : List Value).toArray) := by kernel_rfl
theorem pl85 : placesT Try.prog 85 = some [(0, 1), (1, 1), (2, 17), (19, 1)] := by kernel_rfl
theorem fd85_0 : fieldT Try.prog 85 0 = some 0 := by kernel_rfl
theorem fd85_1 : fieldT Try.prog 85 1 = some 1 := by kernel_rfl
theorem fd85_2 : fieldT Try.prog 85 2 = some 2 := by kernel_rfl
theorem fd85_3 : fieldT Try.prog 85 3 = some 19 := by kernel_rfl
theorem a86 : aggT Try.prog 86 = some true := by kernel_rfl
theorem s86 : sizeT Try.prog 86 = some 34 := by kernel_rfl
theorem b86 : bytesT Try.prog 86 = some 64 := by kernel_rfl
theorem z86 : zeroT Try.prog 86 = some (.agg (List.replicate 16 (.int .u8 0) ++ [.int .i64 0] ++ List.replicate 16 (.int .u8 0) ++ [.slice none 0 0] : List Value).toArray) := by kernel_rfl
theorem pl86 : placesT Try.prog 86 = some [(0, 17), (17, 16), (33, 1)] := by kernel_rfl
theorem fd86_0 : fieldT Try.prog 86 0 = some 0 := by kernel_rfl
theorem fd86_1 : fieldT Try.prog 86 1 = some 17 := by kernel_rfl
theorem fd86_2 : fieldT Try.prog 86 2 = some 33 := by kernel_rfl
theorem a87 : aggT Try.prog 87 = some true := by kernel_rfl
theorem s87 : sizeT Try.prog 87 = some 34 := by kernel_rfl
theorem b87 : bytesT Try.prog 87 = some 64 := by kernel_rfl
theorem z87 : zeroT Try.prog 87 = some (.agg (List.replicate 16 (.int .u8 0) ++ [.int .i64 0] ++ List.replicate 16 (.int .u8 0) ++ [.slice none 0 0] : List Value).toArray) := by kernel_rfl
theorem pl87 : placesT Try.prog 87 = some [(0, 17), (17, 16), (33, 1)] := by kernel_rfl
theorem fd87_0 : fieldT Try.prog 87 0 = some 0 := by kernel_rfl
theorem fd87_1 : fieldT Try.prog 87 1 = some 17 := by kernel_rfl
theorem fd87_2 : fieldT Try.prog 87 2 = some 33 := by kernel_rfl
theorem a90 : aggT Try.prog 90 = some true := by kernel_rfl
theorem s90 : sizeT Try.prog 90 = some 3 := by kernel_rfl
theorem b90 : bytesT Try.prog 90 = some 32 := by kernel_rfl
theorem z90 : zeroT Try.prog 90 = some (.agg ([.slice none 0 0, .bool false, .bool false] : List Value).toArray) := by kernel_rfl
theorem pl90 : placesT Try.prog 90 = some [(0, 1), (1, 1), (2, 1)] := by kernel_rfl
theorem fd90_0 : fieldT Try.prog 90 0 = some 0 := by kernel_rfl
theorem fd90_1 : fieldT Try.prog 90 1 = some 1 := by kernel_rfl
theorem fd90_2 : fieldT Try.prog 90 2 = some 2 := by kernel_rfl
theorem u99 : Try.prog.underlying 99 = some (.map 25 34) := by kernel_rfl
theorem a99 : aggT Try.prog 99 = some false := by kernel_rfl
theorem s99 : sizeT Try.prog 99 = some 1 := by kernel_rfl
theorem b99 : bytesT Try.prog 99 = some 8 := by kernel_rfl
theorem z99 : zeroT Try.prog 99 = some (.map none) := by kernel_rfl
theorem a100 : aggT Try.prog 100 = some true := by kernel_rfl
theorem s100 : sizeT Try.prog 100 = some 2 := by kernel_rfl
theorem b100 : bytesT Try.prog 100 = some 16 := by kernel_rfl
theorem z100 : zeroT Try.prog 100 = some (.agg ([.int .i64 0, .map none] : List Value).toArray) := by kernel_rfl
theorem pl100 : placesT Try.prog 100 = some [(0, 1), (1, 1)] := by kernel_rfl
theorem fd100_0 : fieldT Try.prog 100 0 = some 0 := by kernel_rfl
theorem fd100_1 : fieldT Try.prog 100 1 = some 1 := by kernel_rfl
theorem a101 : aggT Try.prog 101 = some true := by kernel_rfl
theorem s101 : sizeT Try.prog 101 = some 2 := by kernel_rfl
theorem b101 : bytesT Try.prog 101 = some 16 := by kernel_rfl
theorem z101 : zeroT Try.prog 101 = some (.agg ([.int .i64 0, .map none] : List Value).toArray) := by kernel_rfl
theorem pl101 : placesT Try.prog 101 = some [(0, 1), (1, 1)] := by kernel_rfl
theorem fd101_0 : fieldT Try.prog 101 0 = some 0 := by kernel_rfl
theorem fd101_1 : fieldT Try.prog 101 1 = some 1 := by kernel_rfl
theorem a106 : aggT Try.prog 106 = some true := by kernel_rfl
theorem s106 : sizeT Try.prog 106 = some 50 := by kernel_rfl
theorem b106 : bytesT Try.prog 106 = some 80 := by kernel_rfl
theorem z106 : zeroT Try.prog 106 = some (.agg (List.replicate 16 (.int .u8 0) ++ [.int .i64 0] ++ List.replicate 32 (.int .u8 0) ++ [.slice none 0 0] : List Value).toArray) := by kernel_rfl
theorem pl106 : placesT Try.prog 106 = some [(0, 17), (17, 16), (33, 16), (49, 1)] := by kernel_rfl
theorem fd106_0 : fieldT Try.prog 106 0 = some 0 := by kernel_rfl
theorem fd106_1 : fieldT Try.prog 106 1 = some 17 := by kernel_rfl
theorem fd106_2 : fieldT Try.prog 106 2 = some 33 := by kernel_rfl
theorem fd106_3 : fieldT Try.prog 106 3 = some 49 := by kernel_rfl
theorem a107 : aggT Try.prog 107 = some true := by kernel_rfl
theorem s107 : sizeT Try.prog 107 = some 50 := by kernel_rfl
theorem b107 : bytesT Try.prog 107 = some 80 := by kernel_rfl
theorem z107 : zeroT Try.prog 107 = some (.agg (List.replicate 16 (.int .u8 0) ++ [.int .i64 0] ++ List.replicate 32 (.int .u8 0) ++ [.slice none 0 0] : List Value).toArray) := by kernel_rfl
theorem pl107 : placesT Try.prog 107 = some [(0, 17), (17, 16), (33, 16), (49, 1)] := by kernel_rfl
theorem fd107_0 : fieldT Try.prog 107 0 = some 0 := by kernel_rfl
theorem fd107_1 : fieldT Try.prog 107 1 = some 17 := by kernel_rfl
theorem fd107_2 : fieldT Try.prog 107 2 = some 33 := by kernel_rfl
theorem fd107_3 : fieldT Try.prog 107 3 = some 49 := by kernel_rfl
theorem a108 : aggT Try.prog 108 = some false := by kernel_rfl
theorem s108 : sizeT Try.prog 108 = some 1 := by kernel_rfl
theorem b108 : bytesT Try.prog 108 = some 16 := by kernel_rfl
theorem z108 : zeroT Try.prog 108 = some (.nilIface) := by kernel_rfl
theorem a109 : aggT Try.prog 109 = some false := by kernel_rfl
theorem s109 : sizeT Try.prog 109 = some 1 := by kernel_rfl
theorem b109 : bytesT Try.prog 109 = some 16 := by kernel_rfl
theorem z109 : zeroT Try.prog 109 = some (.nilIface) := by kernel_rfl
theorem a113 : aggT Try.prog 113 = some true := by kernel_rfl
theorem s113 : sizeT Try.prog 113 = some 17 := by kernel_rfl
theorem b113 : bytesT Try.prog 113 = some 24 := by kernel_rfl
theorem z113 : zeroT Try.prog 113 = some (.agg (List.replicate 16 (.int .u8 0) ++ [.int .i64 0] : List Value).toArray) := by kernel_rfl
theorem pl113 : placesT Try.prog 113 = some [(0, 17)] := by kernel_rfl
theorem fd113_0 : fieldT Try.prog 113 0 = some 0 := by kernel_rfl
theorem a114 : aggT Try.prog 114 = some true := by kernel_rfl
theorem s114 : sizeT Try.prog 114 = some 17 := by kernel_rfl
theorem b114 : bytesT Try.prog 114 = some 24 := by kernel_rfl
theorem z114 : zeroT Try.prog 114 = some (.agg (List.replicate 16 (.int .u8 0) ++ [.int .i64 0] : List Value).toArray) := by kernel_rfl
theorem pl114 : placesT Try.prog 114 = some [(0, 17)] := by kernel_rfl
theorem fd114_0 : fieldT Try.prog 114 0 = some 0 := by kernel_rfl
theorem a121 : aggT Try.prog 121 = some true := by kernel_rfl
theorem s121 : sizeT Try.prog 121 = some 20 := by kernel_rfl
theorem b121 : bytesT Try.prog 121 = some 48 := by kernel_rfl
theorem z121 : zeroT Try.prog 121 = some (.agg (List.replicate 4 (.int .i64 0) ++ List.replicate 16 (.int .u8 0) : List Value).toArray) := by kernel_rfl
theorem pl121 : placesT Try.prog 121 = some [(0, 2), (2, 2), (4, 16)] := by kernel_rfl
theorem fd121_0 : fieldT Try.prog 121 0 = some 0 := by kernel_rfl
theorem fd121_1 : fieldT Try.prog 121 1 = some 2 := by kernel_rfl
theorem fd121_2 : fieldT Try.prog 121 2 = some 4 := by kernel_rfl
theorem a122 : aggT Try.prog 122 = some true := by kernel_rfl
theorem s122 : sizeT Try.prog 122 = some 20 := by kernel_rfl
theorem b122 : bytesT Try.prog 122 = some 48 := by kernel_rfl
theorem z122 : zeroT Try.prog 122 = some (.agg (List.replicate 4 (.int .i64 0) ++ List.replicate 16 (.int .u8 0) : List Value).toArray) := by kernel_rfl
theorem pl122 : placesT Try.prog 122 = some [(0, 2), (2, 2), (4, 16)] := by kernel_rfl
theorem fd122_0 : fieldT Try.prog 122 0 = some 0 := by kernel_rfl
theorem fd122_1 : fieldT Try.prog 122 1 = some 2 := by kernel_rfl
theorem fd122_2 : fieldT Try.prog 122 2 = some 4 := by kernel_rfl
theorem a123 : aggT Try.prog 123 = some true := by kernel_rfl
theorem s123 : sizeT Try.prog 123 = some 6 := by kernel_rfl
theorem b123 : bytesT Try.prog 123 = some 64 := by kernel_rfl
theorem z123 : zeroT Try.prog 123 = some (.agg (List.replicate 5 (.int .i64 0) ++ [.slice none 0 0] : List Value).toArray) := by kernel_rfl
theorem pl123 : placesT Try.prog 123 = some [(0, 2), (2, 2), (4, 1), (5, 1)] := by kernel_rfl
theorem fd123_0 : fieldT Try.prog 123 0 = some 0 := by kernel_rfl
theorem fd123_1 : fieldT Try.prog 123 1 = some 2 := by kernel_rfl
theorem fd123_2 : fieldT Try.prog 123 2 = some 4 := by kernel_rfl
theorem fd123_3 : fieldT Try.prog 123 3 = some 5 := by kernel_rfl
theorem a124 : aggT Try.prog 124 = some true := by kernel_rfl
theorem s124 : sizeT Try.prog 124 = some 6 := by kernel_rfl
theorem b124 : bytesT Try.prog 124 = some 64 := by kernel_rfl
theorem z124 : zeroT Try.prog 124 = some (.agg (List.replicate 5 (.int .i64 0) ++ [.slice none 0 0] : List Value).toArray) := by kernel_rfl
theorem pl124 : placesT Try.prog 124 = some [(0, 2), (2, 2), (4, 1), (5, 1)] := by kernel_rfl
theorem fd124_0 : fieldT Try.prog 124 0 = some 0 := by kernel_rfl
theorem fd124_1 : fieldT Try.prog 124 1 = some 2 := by kernel_rfl
theorem fd124_2 : fieldT Try.prog 124 2 = some 4 := by kernel_rfl
theorem fd124_3 : fieldT Try.prog 124 3 = some 5 := by kernel_rfl
theorem a125 : aggT Try.prog 125 = some true := by kernel_rfl
theorem s125 : sizeT Try.prog 125 = some 5 := by kernel_rfl
theorem b125 : bytesT Try.prog 125 = some 40 := by kernel_rfl
theorem z125 : zeroT Try.prog 125 = some (.agg (List.replicate 5 (.int .i64 0) : List Value).toArray) := by kernel_rfl
theorem pl125 : placesT Try.prog 125 = some [(0, 2), (2, 2), (4, 1)] := by kernel_rfl
theorem fd125_0 : fieldT Try.prog 125 0 = some 0 := by kernel_rfl
theorem fd125_1 : fieldT Try.prog 125 1 = some 2 := by kernel_rfl
theorem fd125_2 : fieldT Try.prog 125 2 = some 4 := by kernel_rfl
theorem a126 : aggT Try.prog 126 = some true := by kernel_rfl
theorem s126 : sizeT Try.prog 126 = some 5 := by kernel_rfl
theorem b126 : bytesT Try.prog 126 = some 40 := by kernel_rfl
theorem z126 : zeroT Try.prog 126 = some (.agg (List.replicate 5 (.int .i64 0) : List Value).toArray) := by kernel_rfl
theorem pl126 : placesT Try.prog 126 = some [(0, 2), (2, 2), (4, 1)] := by kernel_rfl
theorem fd126_0 : fieldT Try.prog 126 0 = some 0 := by kernel_rfl
theorem fd126_1 : fieldT Try.prog 126 1 = some 2 := by kernel_rfl
theorem fd126_2 : fieldT Try.prog 126 2 = some 4 := by kernel_rfl
theorem a127 : aggT Try.prog 127 = some true := by kernel_rfl
theorem s127 : sizeT Try.prog 127 = some 18 := by kernel_rfl
theorem b127 : bytesT Try.prog 127 = some 32 := by kernel_rfl
theorem z127 : zeroT Try.prog 127 = some (.agg (List.replicate 16 (.int .u8 0) ++ [.int .i64 0, .bool false] : List Value).toArray) := by kernel_rfl
theorem pl127 : placesT Try.prog 127 = some [(0, 17), (17, 1)] := by kernel_rfl
theorem fd127_0 : fieldT Try.prog 127 0 = some 0 := by kernel_rfl
theorem fd127_1 : fieldT Try.prog 127 1 = some 17 := by kernel_rfl
theorem a128 : aggT Try.prog 128 = some true := by kernel_rfl
theorem s128 : sizeT Try.prog 128 = some 18 := by kernel_rfl
theorem b128 : bytesT Try.prog 128 = some 32 := by kernel_rfl
theorem z128 : zeroT Try.prog 128 = some (.agg (List.replicate 16 (.int .u8 0) ++ [.int .i64 0, .bool false] : List Value).toArray) := by kernel_rfl
theorem pl128 : placesT Try.prog 128 = some [(0, 17), (17, 1)] := by kernel_rfl
theorem fd128_0 : fieldT Try.prog 128 0 = some 0 := by kernel_rfl
theorem fd128_1 : fieldT Try.prog 128 1 = some 17 := by kernel_rfl
theorem a129 : aggT Try.prog 129 = some true := by kernel_rfl
theorem s129 : sizeT Try.prog 129 = some 19 := by kernel_rfl
theorem b129 : bytesT Try.prog 129 = some 56 := by kernel_rfl
theorem z129 : zeroT Try.prog 129 = some (.agg (List.replicate 16 (.int .u8 0) ++ [.int .i64 0, .bool false, .slice none 0 0] : List Value).toArray) := by kernel_rfl
theorem pl129 : placesT Try.prog 129 = some [(0, 17), (17, 1), (18, 1)] := by kernel_rfl
theorem fd129_0 : fieldT Try.prog 129 0 = some 0 := by kernel_rfl
theorem fd129_1 : fieldT Try.prog 129 1 = some 17 := by kernel_rfl
theorem fd129_2 : fieldT Try.prog 129 2 = some 18 := by kernel_rfl
theorem a130 : aggT Try.prog 130 = some true := by kernel_rfl
theorem s130 : sizeT Try.prog 130 = some 19 := by kernel_rfl
theorem b130 : bytesT Try.prog 130 = some 56 := by kernel_rfl
theorem z130 : zeroT Try.prog 130 = some (.agg (List.replicate 16 (.int .u8 0) ++ [.int .i64 0, .bool false, .slice none 0 0] : List Value).toArray) := by kernel_rfl
theorem pl130 : placesT Try.prog 130 = some [(0, 17), (17, 1), (18, 1)] := by kernel_rfl
theorem fd130_0 : fieldT Try.prog 130 0 = some 0 := by kernel_rfl
theorem fd130_1 : fieldT Try.prog 130 1 = some 17 := by kernel_rfl
theorem fd130_2 : fieldT Try.prog 130 2 = some 18 := by kernel_rfl
theorem a131 : aggT Try.prog 131 = some true := by kernel_rfl
theorem s131 : sizeT Try.prog 131 = some 52 := by kernel_rfl
theorem b131 : bytesT Try.prog 131 = some 96 := by kernel_rfl
theorem z131 : zeroT Try.prog 131 = some (.agg (List.replicate 32 (.int .u8 0) ++ [.int .i64 0] ++ List.replicate 16 (.int .u8 0) ++ [.int .i64 0, .bool false, .slice none 0 0] : List Value).toArray) := by kernel_rfl
theorem pl131 : placesT Try.prog 131 = some [(0, 16), (16, 16), (32, 1), (33, 17), (50, 1), (51, 1)] := by kernel_rfl
theorem fd131_0 : fieldT Try.prog 131 0 = some 0 := by kernel_rfl
theorem fd131_1 : fieldT Try.prog 131 1 = some 16 := by kernel_rfl
theorem fd131_2 : fieldT Try.prog 131 2 = some 32 := by kernel_rfl
theorem fd131_3 : fieldT Try.prog 131 3 = some 33 := by kernel_rfl
theorem fd131_4 : fieldT Try.prog 131 4 = some 50 := by kernel_rfl
theorem fd131_5 : fieldT Try.prog 131 5 = some 51 := by kernel_rfl
theorem a132 : aggT Try.prog 132 = some true := by kernel_rfl
theorem s132 : sizeT Try.prog 132 = some 52 := by kernel_rfl
theorem b132 : bytesT Try.prog 132 = some 96 := by kernel_rfl
theorem z132 : zeroT Try.prog 132 = some (.agg (List.replicate 32 (.int .u8 0) ++ [.int .i64 0] ++ List.replicate 16 (.int .u8 0) ++ [.int .i64 0, .bool false, .slice none 0 0] : List Value).toArray) := by kernel_rfl
theorem pl132 : placesT Try.prog 132 = some [(0, 16), (16, 16), (32, 1), (33, 17), (50, 1), (51, 1)] := by kernel_rfl
theorem fd132_0 : fieldT Try.prog 132 0 = some 0 := by kernel_rfl
theorem fd132_1 : fieldT Try.prog 132 1 = some 16 := by kernel_rfl
theorem fd132_2 : fieldT Try.prog 132 2 = some 32 := by kernel_rfl
theorem fd132_3 : fieldT Try.prog 132 3 = some 33 := by kernel_rfl
theorem fd132_4 : fieldT Try.prog 132 4 = some 50 := by kernel_rfl
theorem fd132_5 : fieldT Try.prog 132 5 = some 51 := by kernel_rfl
theorem a133 : aggT Try.prog 133 = some true := by kernel_rfl
theorem s133 : sizeT Try.prog 133 = some 17 := by kernel_rfl
theorem b133 : bytesT Try.prog 133 = some 24 := by kernel_rfl
theorem z133 : zeroT Try.prog 133 = some (.agg (List.replicate 16 (.int .u8 0) ++ [.int .i64 0] : List Value).toArray) := by kernel_rfl
theorem pl133 : placesT Try.prog 133 = some [(0, 16), (16, 1)] := by kernel_rfl
theorem fd133_0 : fieldT Try.prog 133 0 = some 0 := by kernel_rfl
theorem fd133_1 : fieldT Try.prog 133 1 = some 16 := by kernel_rfl
theorem a134 : aggT Try.prog 134 = some true := by kernel_rfl
theorem s134 : sizeT Try.prog 134 = some 17 := by kernel_rfl
theorem b134 : bytesT Try.prog 134 = some 24 := by kernel_rfl
theorem z134 : zeroT Try.prog 134 = some (.agg (List.replicate 16 (.int .u8 0) ++ [.int .i64 0] : List Value).toArray) := by kernel_rfl
theorem pl134 : placesT Try.prog 134 = some [(0, 16), (16, 1)] := by kernel_rfl
theorem fd134_0 : fieldT Try.prog 134 0 = some 0 := by kernel_rfl
theorem fd134_1 : fieldT Try.prog 134 1 = some 16 := by kernel_rfl
theorem a135 : aggT Try.prog 135 = some true := by kernel_rfl
theorem s135 : sizeT Try.prog 135 = some 70 := by kernel_rfl
theorem b135 : bytesT Try.prog 135 = some 144 := by kernel_rfl
theorem z135 : zeroT Try.prog 135 = some (.agg (List.replicate 32 (.int .u8 0) ++ [.int .i64 0, .int .i64 0, .int .i64 0] ++ List.replicate 16 (.int .u8 0) ++ [.int .i64 0] ++ List.replicate 16 (.int .u8 0) ++ [.slice none 0 0, .slice none 0 0] : List Value).toArray) := by kernel_rfl
theorem pl135 : placesT Try.prog 135 = some [(0, 16), (16, 16), (32, 1), (33, 1), (34, 1), (35, 34), (69, 1)] := by kernel_rfl
theorem fd135_0 : fieldT Try.prog 135 0 = some 0 := by kernel_rfl
theorem fd135_1 : fieldT Try.prog 135 1 = some 16 := by kernel_rfl
theorem fd135_2 : fieldT Try.prog 135 2 = some 32 := by kernel_rfl
theorem fd135_3 : fieldT Try.prog 135 3 = some 33 := by kernel_rfl
theorem fd135_4 : fieldT Try.prog 135 4 = some 34 := by kernel_rfl
theorem fd135_5 : fieldT Try.prog 135 5 = some 35 := by kernel_rfl
theorem fd135_6 : fieldT Try.prog 135 6 = some 69 := by kernel_rfl
theorem a136 : aggT Try.prog 136 = some true := by kernel_rfl
theorem s136 : sizeT Try.prog 136 = some 70 := by kernel_rfl
theorem b136 : bytesT Try.prog 136 = some 144 := by kernel_rfl
theorem z136 : zeroT Try.prog 136 = some (.agg (List.replicate 32 (.int .u8 0) ++ [.int .i64 0, .int .i64 0, .int .i64 0] ++ List.replicate 16 (.int .u8 0) ++ [.int .i64 0] ++ List.replicate 16 (.int .u8 0) ++ [.slice none 0 0, .slice none 0 0] : List Value).toArray) := by kernel_rfl
theorem pl136 : placesT Try.prog 136 = some [(0, 16), (16, 16), (32, 1), (33, 1), (34, 1), (35, 34), (69, 1)] := by kernel_rfl
theorem fd136_0 : fieldT Try.prog 136 0 = some 0 := by kernel_rfl
theorem fd136_1 : fieldT Try.prog 136 1 = some 16 := by kernel_rfl
theorem fd136_2 : fieldT Try.prog 136 2 = some 32 := by kernel_rfl
theorem fd136_3 : fieldT Try.prog 136 3 = some 33 := by kernel_rfl
theorem fd136_4 : fieldT Try.prog 136 4 = some 34 := by kernel_rfl
theorem fd136_5 : fieldT Try.prog 136 5 = some 35 := by kernel_rfl
theorem fd136_6 : fieldT Try.prog 136 6 = some 69 := by kernel_rfl
theorem a138 : aggT Try.prog 138 = some true := by kernel_rfl
theorem s138 : sizeT Try.prog 138 = some 52 := by kernel_rfl
theorem b138 : bytesT Try.prog 138 = some 96 := by kernel_rfl
theorem z138 : zeroT Try.prog 138 = some (.agg (List.replicate 16 (.int .u8 0) ++ [.int .i64 0, .bool false] ++ List.replicate 16 (.int .u8 0) ++ [.int .i64 0] ++ List.replicate 16 (.int .u8 0) ++ [.slice none 0 0] : List Value).toArray) := by kernel_rfl
theorem pl138 : placesT Try.prog 138 = some [(0, 17), (17, 1), (18, 34)] := by kernel_rfl
theorem fd138_0 : fieldT Try.prog 138 0 = some 0 := by kernel_rfl
theorem fd138_1 : fieldT Try.prog 138 1 = some 17 := by kernel_rfl
theorem fd138_2 : fieldT Try.prog 138 2 = some 18 := by kernel_rfl
theorem a139 : aggT Try.prog 139 = some true := by kernel_rfl
theorem s139 : sizeT Try.prog 139 = some 52 := by kernel_rfl
theorem b139 : bytesT Try.prog 139 = some 96 := by kernel_rfl
theorem z139 : zeroT Try.prog 139 = some (.agg (List.replicate 16 (.int .u8 0) ++ [.int .i64 0, .bool false] ++ List.replicate 16 (.int .u8 0) ++ [.int .i64 0] ++ List.replicate 16 (.int .u8 0) ++ [.slice none 0 0] : List Value).toArray) := by kernel_rfl
theorem pl139 : placesT Try.prog 139 = some [(0, 17), (17, 1), (18, 34)] := by kernel_rfl
theorem fd139_0 : fieldT Try.prog 139 0 = some 0 := by kernel_rfl
theorem fd139_1 : fieldT Try.prog 139 1 = some 17 := by kernel_rfl
theorem fd139_2 : fieldT Try.prog 139 2 = some 18 := by kernel_rfl
theorem a140 : aggT Try.prog 140 = some true := by kernel_rfl
theorem s140 : sizeT Try.prog 140 = some 51 := by kernel_rfl
theorem b140 : bytesT Try.prog 140 = some 72 := by kernel_rfl
theorem z140 : zeroT Try.prog 140 = some (.agg (List.replicate 16 (.int .u8 0) ++ [.int .i64 0, .bool false] ++ List.replicate 16 (.int .u8 0) ++ [.int .i64 0] ++ List.replicate 16 (.int .u8 0) : List Value).toArray) := by kernel_rfl
theorem pl140 : placesT Try.prog 140 = some [(0, 17), (17, 1), (18, 16), (34, 17)] := by kernel_rfl
theorem fd140_0 : fieldT Try.prog 140 0 = some 0 := by kernel_rfl
theorem fd140_1 : fieldT Try.prog 140 1 = some 17 := by kernel_rfl
theorem fd140_2 : fieldT Try.prog 140 2 = some 18 := by kernel_rfl
theorem fd140_3 : fieldT Try.prog 140 3 = some 34 := by kernel_rfl
theorem a141 : aggT Try.prog 141 = some true := by kernel_rfl
theorem s141 : sizeT Try.prog 141 = some 51 := by kernel_rfl
theorem b141 : bytesT Try.prog 141 = some 72 := by kernel_rfl
theorem z141 : zeroT Try.prog 141 = some (.agg (List.replicate 16 (.int .u8 0) ++ [.int .i64 0, .bool false] ++ List.replicate 16 (.int .u8 0) ++ [.int .i64 0] ++ List.replicate 16 (.int .u8 0) : List Value).toArray) := by kernel_rfl
theorem pl141 : placesT Try.prog 141 = some [(0, 17), (17, 1), (18, 16), (34, 17)] := by kernel_rfl
theorem fd141_0 : fieldT Try.prog 141 0 = some 0 := by kernel_rfl
theorem fd141_1 : fieldT Try.prog 141 1 = some 17 := by kernel_rfl
theorem fd141_2 : fieldT Try.prog 141 2 = some 18 := by kernel_rfl
theorem fd141_3 : fieldT Try.prog 141 3 = some 34 := by kernel_rfl
theorem u142 : Try.prog.underlying 142 = some (.slice 25) := by kernel_rfl
theorem a142 : aggT Try.prog 142 = some false := by kernel_rfl
theorem s142 : sizeT Try.prog 142 = some 1 := by kernel_rfl
theorem b142 : bytesT Try.prog 142 = some 24 := by kernel_rfl
theorem z142 : zeroT Try.prog 142 = some (.slice none 0 0) := by kernel_rfl
theorem el142 : elemT Try.prog 142 = some 25 := by kernel_rfl
theorem u149 : Try.prog.underlying 149 = some (.int .u64) := by kernel_rfl
theorem a149 : aggT Try.prog 149 = some false := by kernel_rfl
theorem s149 : sizeT Try.prog 149 = some 1 := by kernel_rfl
theorem b149 : bytesT Try.prog 149 = some 8 := by kernel_rfl
theorem z149 : zeroT Try.prog 149 = some (.int .u64 0) := by kernel_rfl
theorem u157 : Try.prog.underlying 157 = some (.int .u64) := by kernel_rfl
theorem a157 : aggT Try.prog 157 = some false := by kernel_rfl
theorem s157 : sizeT Try.prog 157 = some 1 := by kernel_rfl
theorem b157 : bytesT Try.prog 157 = some 8 := by kernel_rfl
theorem z157 : zeroT Try.prog 157 = some (.int .u64 0) := by kernel_rfl
theorem u159 : Try.prog.underlying 159 = some (.int .i64) := by kernel_rfl
theorem a159 : aggT Try.prog 159 = some false := by kernel_rfl
theorem s159 : sizeT Try.prog 159 = some 1 := by kernel_rfl
theorem b159 : bytesT Try.prog 159 = some 8 := by kernel_rfl
theorem z159 : zeroT Try.prog 159 = some (.int .i64 0) := by kernel_rfl
theorem u167 : Try.prog.underlying 167 = some (.int .u32) := by kernel_rfl
theorem a167 : aggT Try.prog 167 = some false := by kernel_rfl
theorem s167 : sizeT Try.prog 167 = some 1 := by kernel_rfl
theorem b167 : bytesT Try.prog 167 = some 4 := by kernel_rfl
theorem z167 : zeroT Try.prog 167 = some (.int .u32 0) := by kernel_rfl
theorem u169 : Try.prog.underlying 169 = some (.int .u64) := by kernel_rfl
theorem a169 : aggT Try.prog 169 = some false := by kernel_rfl
theorem s169 : sizeT Try.prog 169 = some 1 := by kernel_rfl
theorem b169 : bytesT Try.prog 169 = some 8 := by kernel_rfl
theorem z169 : zeroT Try.prog 169 = some (.int .u64 0) := by kernel_rfl
theorem u173 : Try.prog.underlying 173 = some (.pointer 3) := by kernel_rfl
theorem a173 : aggT Try.prog 173 = some false := by kernel_rfl
theorem s173 : sizeT Try.prog 173 = some 1 := by kernel_rfl
theorem b173 : bytesT Try.prog 173 = some 8 := by kernel_rfl
theorem z173 : zeroT Try.prog 173 = some (.pointer none) := by kernel_rfl
theorem u175 : Try.prog.underlying 175 = some (.pointer 169) := by kernel_rfl
theorem a175 : aggT Try.prog 175 = some false := by kernel_rfl
theorem s175 : sizeT Try.prog 175 = some 1 := by kernel_rfl
theorem b175 : bytesT Try.prog 175 = some 8 := by kernel_rfl
theorem z175 : zeroT Try.prog 175 = some (.pointer none) := by kernel_rfl
theorem a179 : aggT Try.prog 179 = some true := by kernel_rfl
theorem s179 : sizeT Try.prog 179 = some 4 := by kernel_rfl
theorem b179 : bytesT Try.prog 179 = some 40 := by kernel_rfl
theorem z179 : zeroT Try.prog 179 = some (.agg ([.pointer none, .pointer none, .pointer none, .string ByteArray.empty] : List Value).toArray) := by kernel_rfl
theorem pl179 : placesT Try.prog 179 = some [(0, 1), (1, 1), (2, 1), (3, 1)] := by kernel_rfl
theorem fd179_0 : fieldT Try.prog 179 0 = some 0 := by kernel_rfl
theorem fd179_1 : fieldT Try.prog 179 1 = some 1 := by kernel_rfl
theorem fd179_2 : fieldT Try.prog 179 2 = some 2 := by kernel_rfl
theorem fd179_3 : fieldT Try.prog 179 3 = some 3 := by kernel_rfl
theorem a180 : aggT Try.prog 180 = some true := by kernel_rfl
theorem s180 : sizeT Try.prog 180 = some 4 := by kernel_rfl
theorem b180 : bytesT Try.prog 180 = some 40 := by kernel_rfl
theorem z180 : zeroT Try.prog 180 = some (.agg ([.pointer none, .pointer none, .pointer none, .string ByteArray.empty] : List Value).toArray) := by kernel_rfl
theorem pl180 : placesT Try.prog 180 = some [(0, 1), (1, 1), (2, 1), (3, 1)] := by kernel_rfl
theorem fd180_0 : fieldT Try.prog 180 0 = some 0 := by kernel_rfl
theorem fd180_1 : fieldT Try.prog 180 1 = some 1 := by kernel_rfl
theorem fd180_2 : fieldT Try.prog 180 2 = some 2 := by kernel_rfl
theorem fd180_3 : fieldT Try.prog 180 3 = some 3 := by kernel_rfl
theorem u181 : Try.prog.underlying 181 = some (.array 0 16) := by kernel_rfl
theorem a181 : aggT Try.prog 181 = some true := by kernel_rfl
theorem s181 : sizeT Try.prog 181 = some 0 := by kernel_rfl
theorem b181 : bytesT Try.prog 181 = some 0 := by kernel_rfl
theorem z181 : zeroT Try.prog 181 = some (.agg ([] : List Value).toArray) := by kernel_rfl
theorem ar181 : arrT Try.prog 181 = some (0, 16) := by kernel_rfl
theorem a182 : aggT Try.prog 182 = some true := by kernel_rfl
theorem s182 : sizeT Try.prog 182 = some 0 := by kernel_rfl
theorem b182 : bytesT Try.prog 182 = some 0 := by kernel_rfl
theorem z182 : zeroT Try.prog 182 = some (.agg ([] : List Value).toArray) := by kernel_rfl
theorem pl182 : placesT Try.prog 182 = some [(0, 0)] := by kernel_rfl
theorem a183 : aggT Try.prog 183 = some true := by kernel_rfl
theorem s183 : sizeT Try.prog 183 = some 0 := by kernel_rfl
theorem b183 : bytesT Try.prog 183 = some 0 := by kernel_rfl
theorem z183 : zeroT Try.prog 183 = some (.agg ([] : List Value).toArray) := by kernel_rfl
theorem pl183 : placesT Try.prog 183 = some [(0, 0)] := by kernel_rfl
theorem u184 : Try.prog.underlying 184 = some (.int .u8) := by kernel_rfl
theorem a184 : aggT Try.prog 184 = some false := by kernel_rfl
theorem s184 : sizeT Try.prog 184 = some 1 := by kernel_rfl
theorem b184 : bytesT Try.prog 184 = some 1 := by kernel_rfl
theorem z184 : zeroT Try.prog 184 = some (.int .u8 0) := by kernel_rfl
theorem u185 : Try.prog.underlying 185 = some (.int .u8) := by kernel_rfl
theorem a185 : aggT Try.prog 185 = some false := by kernel_rfl
theorem s185 : sizeT Try.prog 185 = some 1 := by kernel_rfl
theorem b185 : bytesT Try.prog 185 = some 1 := by kernel_rfl
theorem z185 : zeroT Try.prog 185 = some (.int .u8 0) := by kernel_rfl
theorem u187 : Try.prog.underlying 187 = some (.pointer 5) := by kernel_rfl
theorem a187 : aggT Try.prog 187 = some false := by kernel_rfl
theorem s187 : sizeT Try.prog 187 = some 1 := by kernel_rfl
theorem b187 : bytesT Try.prog 187 = some 8 := by kernel_rfl
theorem z187 : zeroT Try.prog 187 = some (.pointer none) := by kernel_rfl
theorem u188 : Try.prog.underlying 188 = some (.int .i32) := by kernel_rfl
theorem a188 : aggT Try.prog 188 = some false := by kernel_rfl
theorem s188 : sizeT Try.prog 188 = some 1 := by kernel_rfl
theorem b188 : bytesT Try.prog 188 = some 4 := by kernel_rfl
theorem z188 : zeroT Try.prog 188 = some (.int .i32 0) := by kernel_rfl
theorem u189 : Try.prog.underlying 189 = some (.int .i32) := by kernel_rfl
theorem a189 : aggT Try.prog 189 = some false := by kernel_rfl
theorem s189 : sizeT Try.prog 189 = some 1 := by kernel_rfl
theorem b189 : bytesT Try.prog 189 = some 4 := by kernel_rfl
theorem z189 : zeroT Try.prog 189 = some (.int .i32 0) := by kernel_rfl
theorem a190 : aggT Try.prog 190 = some true := by kernel_rfl
theorem s190 : sizeT Try.prog 190 = some 11 := by kernel_rfl
theorem b190 : bytesT Try.prog 190 = some 48 := by kernel_rfl
theorem z190 : zeroT Try.prog 190 = some (.agg ([.int .u64 0, .int .u64 0, .int .u32 0] ++ List.replicate 4 (.int .u8 0) ++ [.nilFunc, .pointer none, .int .i32 0, .int .i32 0] : List Value).toArray) := by kernel_rfl
theorem pl190 : placesT Try.prog 190 = some [(0, 1), (1, 1), (2, 1), (3, 1), (4, 1), (5, 1), (6, 1), (7, 1), (8, 1), (9, 1), (10, 1)] := by kernel_rfl
theorem fd190_0 : fieldT Try.prog 190 0 = some 0 := by kernel_rfl
theorem fd190_1 : fieldT Try.prog 190 1 = some 1 := by kernel_rfl
theorem fd190_2 : fieldT Try.prog 190 2 = some 2 := by kernel_rfl
theorem fd190_3 : fieldT Try.prog 190 3 = some 3 := by kernel_rfl
theorem fd190_4 : fieldT Try.prog 190 4 = some 4 := by kernel_rfl
theorem fd190_5 : fieldT Try.prog 190 5 = some 5 := by kernel_rfl
theorem fd190_6 : fieldT Try.prog 190 6 = some 6 := by kernel_rfl
theorem fd190_7 : fieldT Try.prog 190 7 = some 7 := by kernel_rfl
theorem fd190_8 : fieldT Try.prog 190 8 = some 8 := by kernel_rfl
theorem fd190_9 : fieldT Try.prog 190 9 = some 9 := by kernel_rfl
theorem fd190_10 : fieldT Try.prog 190 10 = some 10 := by kernel_rfl
theorem a191 : aggT Try.prog 191 = some true := by kernel_rfl
theorem s191 : sizeT Try.prog 191 = some 11 := by kernel_rfl
theorem b191 : bytesT Try.prog 191 = some 48 := by kernel_rfl
theorem z191 : zeroT Try.prog 191 = some (.agg ([.int .u64 0, .int .u64 0, .int .u32 0] ++ List.replicate 4 (.int .u8 0) ++ [.nilFunc, .pointer none, .int .i32 0, .int .i32 0] : List Value).toArray) := by kernel_rfl
theorem pl191 : placesT Try.prog 191 = some [(0, 1), (1, 1), (2, 1), (3, 1), (4, 1), (5, 1), (6, 1), (7, 1), (8, 1), (9, 1), (10, 1)] := by kernel_rfl
theorem fd191_0 : fieldT Try.prog 191 0 = some 0 := by kernel_rfl
theorem fd191_1 : fieldT Try.prog 191 1 = some 1 := by kernel_rfl
theorem fd191_2 : fieldT Try.prog 191 2 = some 2 := by kernel_rfl
theorem fd191_3 : fieldT Try.prog 191 3 = some 3 := by kernel_rfl
theorem fd191_4 : fieldT Try.prog 191 4 = some 4 := by kernel_rfl
theorem fd191_5 : fieldT Try.prog 191 5 = some 5 := by kernel_rfl
theorem fd191_6 : fieldT Try.prog 191 6 = some 6 := by kernel_rfl
theorem fd191_7 : fieldT Try.prog 191 7 = some 7 := by kernel_rfl
theorem fd191_8 : fieldT Try.prog 191 8 = some 8 := by kernel_rfl
theorem fd191_9 : fieldT Try.prog 191 9 = some 9 := by kernel_rfl
theorem fd191_10 : fieldT Try.prog 191 10 = some 10 := by kernel_rfl
theorem a193 : aggT Try.prog 193 = some false := by kernel_rfl
theorem s193 : sizeT Try.prog 193 = some 1 := by kernel_rfl
theorem b193 : bytesT Try.prog 193 = some 8 := by kernel_rfl
theorem z193 : zeroT Try.prog 193 = some (.pointer none) := by kernel_rfl
theorem bd3 : bodyT Try.prog 3 = true := by kernel_rfl
theorem bd4 : bodyT Try.prog 4 = true := by kernel_rfl
theorem bd5 : bodyT Try.prog 5 = true := by kernel_rfl
theorem bd6 : bodyT Try.prog 6 = true := by kernel_rfl
theorem bd7 : bodyT Try.prog 7 = true := by kernel_rfl
theorem bd8 : bodyT Try.prog 8 = true := by kernel_rfl
theorem bd9 : bodyT Try.prog 9 = true := by kernel_rfl
theorem bd10 : bodyT Try.prog 10 = true := by kernel_rfl
theorem bd11 : bodyT Try.prog 11 = true := by kernel_rfl
theorem bd12 : bodyT Try.prog 12 = true := by kernel_rfl
theorem bd13 : bodyT Try.prog 13 = true := by kernel_rfl
theorem bd14 : bodyT Try.prog 14 = true := by kernel_rfl
theorem bd15 : bodyT Try.prog 15 = true := by kernel_rfl
theorem bd16 : bodyT Try.prog 16 = true := by kernel_rfl
theorem bd17 : bodyT Try.prog 17 = true := by kernel_rfl
theorem bd18 : bodyT Try.prog 18 = true := by kernel_rfl
theorem bd19 : bodyT Try.prog 19 = true := by kernel_rfl
theorem bd20 : bodyT Try.prog 20 = true := by kernel_rfl
theorem bd21 : bodyT Try.prog 21 = true := by kernel_rfl
theorem bd22 : bodyT Try.prog 22 = true := by kernel_rfl
theorem bd23 : bodyT Try.prog 23 = true := by kernel_rfl
theorem bd24 : bodyT Try.prog 24 = true := by kernel_rfl
theorem bd25 : bodyT Try.prog 25 = true := by kernel_rfl
theorem bd26 : bodyT Try.prog 26 = true := by kernel_rfl
theorem bd27 : bodyT Try.prog 27 = true := by kernel_rfl
theorem bd28 : bodyT Try.prog 28 = true := by kernel_rfl
theorem bd29 : bodyT Try.prog 29 = true := by kernel_rfl
theorem bd30 : bodyT Try.prog 30 = true := by kernel_rfl
theorem bd31 : bodyT Try.prog 31 = true := by kernel_rfl
theorem bd32 : bodyT Try.prog 32 = true := by kernel_rfl
theorem bd33 : bodyT Try.prog 33 = true := by kernel_rfl
theorem bd34 : bodyT Try.prog 34 = true := by kernel_rfl
theorem bd35 : bodyT Try.prog 35 = true := by kernel_rfl
theorem bd36 : bodyT Try.prog 36 = true := by kernel_rfl
theorem bd37 : bodyT Try.prog 37 = true := by kernel_rfl
theorem bd38 : bodyT Try.prog 38 = true := by kernel_rfl
theorem bd39 : bodyT Try.prog 39 = true := by kernel_rfl
theorem bd40 : bodyT Try.prog 40 = true := by kernel_rfl
theorem bd41 : bodyT Try.prog 41 = true := by kernel_rfl
theorem bd42 : bodyT Try.prog 42 = true := by kernel_rfl
theorem bd43 : bodyT Try.prog 43 = true := by kernel_rfl
theorem bd44 : bodyT Try.prog 44 = true := by kernel_rfl
theorem bd45 : bodyT Try.prog 45 = true := by kernel_rfl
theorem bd46 : bodyT Try.prog 46 = true := by kernel_rfl
theorem bd47 : bodyT Try.prog 47 = true := by kernel_rfl
theorem bd48 : bodyT Try.prog 48 = true := by kernel_rfl
theorem bd49 : bodyT Try.prog 49 = true := by kernel_rfl
theorem bd50 : bodyT Try.prog 50 = true := by kernel_rfl
theorem bd51 : bodyT Try.prog 51 = true := by kernel_rfl
theorem bd52 : bodyT Try.prog 52 = true := by kernel_rfl
theorem bd53 : bodyT Try.prog 53 = true := by kernel_rfl
theorem bd54 : bodyT Try.prog 54 = true := by kernel_rfl
theorem bd55 : bodyT Try.prog 55 = true := by kernel_rfl
theorem bd56 : bodyT Try.prog 56 = true := by kernel_rfl
theorem bd57 : bodyT Try.prog 57 = true := by kernel_rfl
theorem bd58 : bodyT Try.prog 58 = true := by kernel_rfl
theorem bd59 : bodyT Try.prog 59 = true := by kernel_rfl
theorem bd60 : bodyT Try.prog 60 = true := by kernel_rfl
theorem bd61 : bodyT Try.prog 61 = true := by kernel_rfl
theorem bd62 : bodyT Try.prog 62 = true := by kernel_rfl
theorem bd63 : bodyT Try.prog 63 = true := by kernel_rfl
theorem bd64 : bodyT Try.prog 64 = true := by kernel_rfl
theorem bd65 : bodyT Try.prog 65 = true := by kernel_rfl
theorem bd66 : bodyT Try.prog 66 = true := by kernel_rfl
theorem bd67 : bodyT Try.prog 67 = true := by kernel_rfl
theorem bd68 : bodyT Try.prog 68 = true := by kernel_rfl
theorem bd69 : bodyT Try.prog 69 = true := by kernel_rfl
theorem bd70 : bodyT Try.prog 70 = true := by kernel_rfl
theorem bd71 : bodyT Try.prog 71 = true := by kernel_rfl
theorem bd72 : bodyT Try.prog 72 = true := by kernel_rfl
theorem bd73 : bodyT Try.prog 73 = true := by kernel_rfl
theorem bd74 : bodyT Try.prog 74 = true := by kernel_rfl
theorem bd75 : bodyT Try.prog 75 = true := by kernel_rfl
theorem bd76 : bodyT Try.prog 76 = true := by kernel_rfl
theorem bd77 : bodyT Try.prog 77 = true := by kernel_rfl
theorem bd78 : bodyT Try.prog 78 = true := by kernel_rfl
theorem bd80 : bodyT Try.prog 80 = true := by kernel_rfl
theorem bd81 : bodyT Try.prog 81 = true := by kernel_rfl
theorem bd83 : bodyT Try.prog 83 = true := by kernel_rfl
theorem bd84 : bodyT Try.prog 84 = true := by kernel_rfl
theorem bd85 : bodyT Try.prog 85 = true := by kernel_rfl
theorem bd86 : bodyT Try.prog 86 = true := by kernel_rfl
theorem bd87 : bodyT Try.prog 87 = true := by kernel_rfl
theorem bd88 : bodyT Try.prog 88 = true := by kernel_rfl
theorem bd89 : bodyT Try.prog 89 = true := by kernel_rfl
theorem bd90 : bodyT Try.prog 90 = true := by kernel_rfl
theorem bd93 : bodyT Try.prog 93 = true := by kernel_rfl
theorem bd94 : bodyT Try.prog 94 = true := by kernel_rfl
theorem bd96 : bodyT Try.prog 96 = true := by kernel_rfl
theorem bd97 : bodyT Try.prog 97 = true := by kernel_rfl
theorem bd98 : bodyT Try.prog 98 = true := by kernel_rfl
end Ty
end Go.Proofs.Ytpldpkdlloolkaa

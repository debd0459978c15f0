/-
  Closed facts on the types and functions of this program: written by a program of this session (wip/tools/ty.py).
-/
import Derived.Test.YtlmbpfgiadbjaaaProg
import Derived.Test.YtlmbpfgiadbjaaaJ
namespace Go.Proofs.Ytlmbpfgiadbjaaa
namespace Ty
open Go.J
theorem mixed : Try.prog.follows .mixedOrders = true := by kernel_rfl
theorem u2 : Try.prog.underlying 2 = some (.int .i64) := by kernel_rfl
theorem a2 : aggT Try.prog 2 = some false := by kernel_rfl
theorem s2 : sizeT Try.prog 2 = some 1 := by kernel_rfl
theorem b2 : bytesT Try.prog 2 = some 8 := by kernel_rfl
theorem z2 : zeroT Try.prog 2 = some (.int .i64 0) := by kernel_rfl
theorem u3 : Try.prog.underlying 3 = some (.int .i64) := by kernel_rfl
theorem a3 : aggT Try.prog 3 = some false := by kernel_rfl
theorem s3 : sizeT Try.prog 3 = some 1 := by kernel_rfl
theorem b3 : bytesT Try.prog 3 = some 8 := by kernel_rfl
theorem z3 : zeroT Try.prog 3 = some (.int .i64 0) := by kernel_rfl
theorem u4 : Try.prog.underlying 4 = some (.bool) := by kernel_rfl
theorem a4 : aggT Try.prog 4 = some false := by kernel_rfl
theorem s4 : sizeT Try.prog 4 = some 1 := by kernel_rfl
theorem b4 : bytesT Try.prog 4 = some 1 := by kernel_rfl
theorem z4 : zeroT Try.prog 4 = some (.bool false) := by kernel_rfl
theorem u5 : Try.prog.underlying 5 = some (.int .u8) := by kernel_rfl
theorem a5 : aggT Try.prog 5 = some false := by kernel_rfl
theorem s5 : sizeT Try.prog 5 = some 1 := by kernel_rfl
theorem b5 : bytesT Try.prog 5 = some 1 := by kernel_rfl
theorem z5 : zeroT Try.prog 5 = some (.int .u8 0) := by kernel_rfl
theorem u6 : Try.prog.underlying 6 = some (.int .u8) := by kernel_rfl
theorem a6 : aggT Try.prog 6 = some false := by kernel_rfl
theorem s6 : sizeT Try.prog 6 = some 1 := by kernel_rfl
theorem b6 : bytesT Try.prog 6 = some 1 := by kernel_rfl
theorem z6 : zeroT Try.prog 6 = some (.int .u8 0) := by kernel_rfl
theorem a7 : aggT Try.prog 7 = some true := by kernel_rfl
theorem s7 : sizeT Try.prog 7 = some 4 := by kernel_rfl
theorem b7 : bytesT Try.prog 7 = some 24 := by kernel_rfl
theorem z7 : zeroT Try.prog 7 = some (.agg ([.int .i64 0, .int .i64 0, .bool false, .int .u8 0] : List Value).toArray) := by kernel_rfl
theorem pl7 : placesT Try.prog 7 = some [(0, 1), (1, 1), (2, 1), (3, 1)] := by kernel_rfl
theorem fd7_0 : fieldT Try.prog 7 0 = some 0 := by kernel_rfl
theorem fd7_1 : fieldT Try.prog 7 1 = some 1 := by kernel_rfl
theorem fd7_2 : fieldT Try.prog 7 2 = some 2 := by kernel_rfl
theorem fd7_3 : fieldT Try.prog 7 3 = some 3 := by kernel_rfl
theorem a8 : aggT Try.prog 8 = some true := by kernel_rfl
theorem s8 : sizeT Try.prog 8 = some 4 := by kernel_rfl
theorem b8 : bytesT Try.prog 8 = some 24 := by kernel_rfl
theorem z8 : zeroT Try.prog 8 = some (.agg ([.int .i64 0, .int .i64 0, .bool false, .int .u8 0] : List Value).toArray) := by kernel_rfl
theorem pl8 : placesT Try.prog 8 = some [(0, 1), (1, 1), (2, 1), (3, 1)] := by kernel_rfl
theorem fd8_0 : fieldT Try.prog 8 0 = some 0 := by kernel_rfl
theorem fd8_1 : fieldT Try.prog 8 1 = some 1 := by kernel_rfl
theorem fd8_2 : fieldT Try.prog 8 2 = some 2 := by kernel_rfl
theorem fd8_3 : fieldT Try.prog 8 3 = some 3 := by kernel_rfl
theorem u9 : Try.prog.underlying 9 = some (.string) := by kernel_rfl
theorem a9 : aggT Try.prog 9 = some false := by kernel_rfl
theorem s9 : sizeT Try.prog 9 = some 1 := by kernel_rfl
theorem b9 : bytesT Try.prog 9 = some 16 := by kernel_rfl
theorem z9 : zeroT Try.prog 9 = some (.string ByteArray.empty) := by kernel_rfl
theorem u10 : Try.prog.underlying 10 = some (.string) := by kernel_rfl
theorem a10 : aggT Try.prog 10 = some false := by kernel_rfl
theorem s10 : sizeT Try.prog 10 = some 1 := by kernel_rfl
theorem b10 : bytesT Try.prog 10 = some 16 := by kernel_rfl
theorem z10 : zeroT Try.prog 10 = some (.string ByteArray.empty) := by kernel_rfl
theorem u11 : Try.prog.underlying 11 = some (.string) := by kernel_rfl
theorem a11 : aggT Try.prog 11 = some false := by kernel_rfl
theorem s11 : sizeT Try.prog 11 = some 1 := by kernel_rfl
theorem b11 : bytesT Try.prog 11 = some 16 := by kernel_rfl
theorem z11 : zeroT Try.prog 11 = some (.string ByteArray.empty) := by kernel_rfl
theorem u12 : Try.prog.underlying 12 = some (.int .u64) := by kernel_rfl
theorem a12 : aggT Try.prog 12 = some false := by kernel_rfl
theorem s12 : sizeT Try.prog 12 = some 1 := by kernel_rfl
theorem b12 : bytesT Try.prog 12 = some 8 := by kernel_rfl
theorem z12 : zeroT Try.prog 12 = some (.int .u64 0) := by kernel_rfl
theorem a13 : aggT Try.prog 13 = some true := by kernel_rfl
theorem s13 : sizeT Try.prog 13 = some 2 := by kernel_rfl
theorem b13 : bytesT Try.prog 13 = some 24 := by kernel_rfl
theorem z13 : zeroT Try.prog 13 = some (.agg ([.string ByteArray.empty, .int .u64 0] : List Value).toArray) := by kernel_rfl
theorem pl13 : placesT Try.prog 13 = some [(0, 1), (1, 1)] := by kernel_rfl
theorem fd13_0 : fieldT Try.prog 13 0 = some 0 := by kernel_rfl
theorem fd13_1 : fieldT Try.prog 13 1 = some 1 := by kernel_rfl
theorem a14 : aggT Try.prog 14 = some true := by kernel_rfl
theorem s14 : sizeT Try.prog 14 = some 2 := by kernel_rfl
theorem b14 : bytesT Try.prog 14 = some 24 := by kernel_rfl
theorem z14 : zeroT Try.prog 14 = some (.agg ([.string ByteArray.empty, .int .u64 0] : List Value).toArray) := by kernel_rfl
theorem pl14 : placesT Try.prog 14 = some [(0, 1), (1, 1)] := by kernel_rfl
theorem fd14_0 : fieldT Try.prog 14 0 = some 0 := by kernel_rfl
theorem fd14_1 : fieldT Try.prog 14 1 = some 1 := by kernel_rfl
theorem u15 : Try.prog.underlying 15 = some (.pointer 88) := by kernel_rfl
theorem a15 : aggT Try.prog 15 = some false := by kernel_rfl
theorem s15 : sizeT Try.prog 15 = some 1 := by kernel_rfl
theorem b15 : bytesT Try.prog 15 = some 8 := by kernel_rfl
theorem z15 : zeroT Try.prog 15 = some (.pointer none) := by kernel_rfl
theorem u16 : Try.prog.underlying 16 = some (.pointer 91) := by kernel_rfl
theorem a16 : aggT Try.prog 16 = some false := by kernel_rfl
theorem s16 : sizeT Try.prog 16 = some 1 := by kernel_rfl
theorem b16 : bytesT Try.prog 16 = some 8 := by kernel_rfl
theorem z16 : zeroT Try.prog 16 = some (.pointer none) := by kernel_rfl
theorem u17 : Try.prog.underlying 17 = some (.pointer 100) := by kernel_rfl
theorem a17 : aggT Try.prog 17 = some false := by kernel_rfl
theorem s17 : sizeT Try.prog 17 = some 1 := by kernel_rfl
theorem b17 : bytesT Try.prog 17 = some 8 := by kernel_rfl
theorem z17 : zeroT Try.prog 17 = some (.pointer none) := by kernel_rfl
theorem a18 : aggT Try.prog 18 = some true := by kernel_rfl
theorem s18 : sizeT Try.prog 18 = some 1 := by kernel_rfl
theorem b18 : bytesT Try.prog 18 = some 8 := by kernel_rfl
theorem z18 : zeroT Try.prog 18 = some (.agg ([.pointer none] : List Value).toArray) := by kernel_rfl
theorem pl18 : placesT Try.prog 18 = some [(0, 1)] := by kernel_rfl
theorem fd18_0 : fieldT Try.prog 18 0 = some 0 := by kernel_rfl
theorem a19 : aggT Try.prog 19 = some true := by kernel_rfl
theorem s19 : sizeT Try.prog 19 = some 1 := by kernel_rfl
theorem b19 : bytesT Try.prog 19 = some 8 := by kernel_rfl
theorem z19 : zeroT Try.prog 19 = some (.agg ([.pointer none] : List Value).toArray) := by kernel_rfl
theorem pl19 : placesT Try.prog 19 = some [(0, 1)] := by kernel_rfl
theorem fd19_0 : fieldT Try.prog 19 0 = some 0 := by kernel_rfl
theorem a20 : aggT Try.prog 20 = some false := by kernel_rfl
theorem s20 : sizeT Try.prog 20 = some 1 := by kernel_rfl
theorem b20 : bytesT Try.prog 20 = some 16 := by kernel_rfl
theorem z20 : zeroT Try.prog 20 = some (.nilIface) := by kernel_rfl
theorem u21 : Try.prog.underlying 21 = some (.int .i32) := by kernel_rfl
theorem a21 : aggT Try.prog 21 = some false := by kernel_rfl
theorem s21 : sizeT Try.prog 21 = some 1 := by kernel_rfl
theorem b21 : bytesT Try.prog 21 = some 4 := by kernel_rfl
theorem z21 : zeroT Try.prog 21 = some (.int .i32 0) := by kernel_rfl
theorem u22 : Try.prog.underlying 22 = some (.slice 30) := by kernel_rfl
theorem a22 : aggT Try.prog 22 = some false := by kernel_rfl
theorem s22 : sizeT Try.prog 22 = some 1 := by kernel_rfl
theorem b22 : bytesT Try.prog 22 = some 24 := by kernel_rfl
theorem z22 : zeroT Try.prog 22 = some (.slice none 0 0) := by kernel_rfl
theorem el22 : elemT Try.prog 22 = some 30 := by kernel_rfl
theorem u23 : Try.prog.underlying 23 = some (.pointer 74) := by kernel_rfl
theorem a23 : aggT Try.prog 23 = some false := by kernel_rfl
theorem s23 : sizeT Try.prog 23 = some 1 := by kernel_rfl
theorem b23 : bytesT Try.prog 23 = some 8 := by kernel_rfl
theorem z23 : zeroT Try.prog 23 = some (.pointer none) := by kernel_rfl
theorem u25 : Try.prog.underlying 25 = some (.pointer 35) := by kernel_rfl
theorem a25 : aggT Try.prog 25 = some false := by kernel_rfl
theorem s25 : sizeT Try.prog 25 = some 1 := by kernel_rfl
theorem b25 : bytesT Try.prog 25 = some 8 := by kernel_rfl
theorem z25 : zeroT Try.prog 25 = some (.pointer none) := by kernel_rfl
theorem u28 : Try.prog.underlying 28 = some (.slice 5) := by kernel_rfl
theorem a28 : aggT Try.prog 28 = some false := by kernel_rfl
theorem s28 : sizeT Try.prog 28 = some 1 := by kernel_rfl
theorem b28 : bytesT Try.prog 28 = some 24 := by kernel_rfl
theorem z28 : zeroT Try.prog 28 = some (.slice none 0 0) := by kernel_rfl
theorem el28 : elemT Try.prog 28 = some 5 := by kernel_rfl
theorem a29 : aggT Try.prog 29 = some true := by kernel_rfl
theorem s29 : sizeT Try.prog 29 = some 3 := by kernel_rfl
theorem b29 : bytesT Try.prog 29 = some 40 := by kernel_rfl
theorem z29 : zeroT Try.prog 29 = some (.agg ([.int .i64 0, .int .i64 0, .slice none 0 0] : List Value).toArray) := by kernel_rfl
theorem pl29 : placesT Try.prog 29 = some [(0, 1), (1, 1), (2, 1)] := by kernel_rfl
theorem fd29_0 : fieldT Try.prog 29 0 = some 0 := by kernel_rfl
theorem fd29_1 : fieldT Try.prog 29 1 = some 1 := by kernel_rfl
theorem fd29_2 : fieldT Try.prog 29 2 = some 2 := by kernel_rfl
theorem a30 : aggT Try.prog 30 = some true := by kernel_rfl
theorem s30 : sizeT Try.prog 30 = some 3 := by kernel_rfl
theorem b30 : bytesT Try.prog 30 = some 40 := by kernel_rfl
theorem z30 : zeroT Try.prog 30 = some (.agg ([.int .i64 0, .int .i64 0, .slice none 0 0] : List Value).toArray) := by kernel_rfl
theorem pl30 : placesT Try.prog 30 = some [(0, 1), (1, 1), (2, 1)] := by kernel_rfl
theorem fd30_0 : fieldT Try.prog 30 0 = some 0 := by kernel_rfl
theorem fd30_1 : fieldT Try.prog 30 1 = some 1 := by kernel_rfl
theorem fd30_2 : fieldT Try.prog 30 2 = some 2 := by kernel_rfl
theorem u31 : Try.prog.underlying 31 = some (.int .i64) := by kernel_rfl
theorem a31 : aggT Try.prog 31 = some false := by kernel_rfl
theorem s31 : sizeT Try.prog 31 = some 1 := by kernel_rfl
theorem b31 : bytesT Try.prog 31 = some 8 := by kernel_rfl
theorem z31 : zeroT Try.prog 31 = some (.int .i64 0) := by kernel_rfl
theorem a34 : aggT Try.prog 34 = some true := by kernel_rfl
theorem s34 : sizeT Try.prog 34 = some 3 := by kernel_rfl
theorem b34 : bytesT Try.prog 34 = some 40 := by kernel_rfl
theorem z34 : zeroT Try.prog 34 = some (.agg ([.slice none 0 0, .int .i64 0, .int .i64 0] : List Value).toArray) := by kernel_rfl
theorem pl34 : placesT Try.prog 34 = some [(0, 1), (1, 1), (2, 1)] := by kernel_rfl
theorem fd34_0 : fieldT Try.prog 34 0 = some 0 := by kernel_rfl
theorem fd34_1 : fieldT Try.prog 34 1 = some 1 := by kernel_rfl
theorem fd34_2 : fieldT Try.prog 34 2 = some 2 := by kernel_rfl
theorem a35 : aggT Try.prog 35 = some true := by kernel_rfl
theorem s35 : sizeT Try.prog 35 = some 3 := by kernel_rfl
theorem b35 : bytesT Try.prog 35 = some 40 := by kernel_rfl
theorem z35 : zeroT Try.prog 35 = some (.agg ([.slice none 0 0, .int .i64 0, .int .i64 0] : List Value).toArray) := by kernel_rfl
theorem pl35 : placesT Try.prog 35 = some [(0, 1), (1, 1), (2, 1)] := by kernel_rfl
theorem fd35_0 : fieldT Try.prog 35 0 = some 0 := by kernel_rfl
theorem fd35_1 : fieldT Try.prog 35 1 = some 1 := by kernel_rfl
theorem fd35_2 : fieldT Try.prog 35 2 = some 2 := by kernel_rfl
theorem u47 : Try.prog.underlying 47 = some (.slice 28) := by kernel_rfl
theorem a47 : aggT Try.prog 47 = some false := by kernel_rfl
theorem s47 : sizeT Try.prog 47 = some 1 := by kernel_rfl
theorem b47 : bytesT Try.prog 47 = some 24 := by kernel_rfl
theorem z47 : zeroT Try.prog 47 = some (.slice none 0 0) := by kernel_rfl
theorem el47 : elemT Try.prog 47 = some 28 := by kernel_rfl
theorem u48 : Try.prog.underlying 48 = some (.pointer 80) := by kernel_rfl
theorem a48 : aggT Try.prog 48 = some false := by kernel_rfl
theorem s48 : sizeT Try.prog 48 = some 1 := by kernel_rfl
theorem b48 : bytesT Try.prog 48 = some 8 := by kernel_rfl
theorem z48 : zeroT Try.prog 48 = some (.pointer none) := by kernel_rfl
theorem u54 : Try.prog.underlying 54 = some (.int .u64) := by kernel_rfl
theorem a54 : aggT Try.prog 54 = some false := by kernel_rfl
theorem s54 : sizeT Try.prog 54 = some 1 := by kernel_rfl
theorem b54 : bytesT Try.prog 54 = some 8 := by kernel_rfl
theorem z54 : zeroT Try.prog 54 = some (.int .u64 0) := by kernel_rfl
theorem u57 : Try.prog.underlying 57 = some (.slice 3) := by kernel_rfl
theorem a57 : aggT Try.prog 57 = some false := by kernel_rfl
theorem s57 : sizeT Try.prog 57 = some 1 := by kernel_rfl
theorem b57 : bytesT Try.prog 57 = some 24 := by kernel_rfl
theorem z57 : zeroT Try.prog 57 = some (.slice none 0 0) := by kernel_rfl
theorem el57 : elemT Try.prog 57 = some 3 := by kernel_rfl
theorem u62 : Try.prog.underlying 62 = some (.pointer 67) := by kernel_rfl
theorem a62 : aggT Try.prog 62 = some false := by kernel_rfl
theorem s62 : sizeT Try.prog 62 = some 1 := by kernel_rfl
theorem b62 : bytesT Try.prog 62 = some 8 := by kernel_rfl
theorem z62 : zeroT Try.prog 62 = some (.pointer none) := by kernel_rfl
theorem u65 : Try.prog.underlying 65 = some (.int .u64) := by kernel_rfl
theorem a65 : aggT Try.prog 65 = some false := by kernel_rfl
theorem s65 : sizeT Try.prog 65 = some 1 := by kernel_rfl
theorem b65 : bytesT Try.prog 65 = some 8 := by kernel_rfl
theorem z65 : zeroT Try.prog 65 = some (.int .u64 0) := by kernel_rfl
theorem a66 : aggT Try.prog 66 = some true := by kernel_rfl
theorem s66 : sizeT Try.prog 66 = some 5 := by kernel_rfl
theorem b66 : bytesT Try.prog 66 = some 40 := by kernel_rfl
theorem z66 : zeroT Try.prog 66 = some (.agg ([.pointer none, .int .u64 0, .int .i64 0, .int .i64 0, .bool false] : List Value).toArray) := by kernel_rfl
theorem pl66 : placesT Try.prog 66 = some [(0, 1), (1, 1), (2, 1), (3, 1), (4, 1)] := by kernel_rfl
theorem fd66_0 : fieldT Try.prog 66 0 = some 0 := by kernel_rfl
theorem fd66_1 : fieldT Try.prog 66 1 = some 1 := by kernel_rfl
theorem fd66_2 : fieldT Try.prog 66 2 = some 2 := by kernel_rfl
theorem fd66_3 : fieldT Try.prog 66 3 = some 3 := by kernel_rfl
theorem fd66_4 : fieldT Try.prog 66 4 = some 4 := by kernel_rfl
theorem a67 : aggT Try.prog 67 = some true := by kernel_rfl
theorem s67 : sizeT Try.prog 67 = some 5 := by kernel_rfl
theorem b67 : bytesT Try.prog 67 = some 40 := by kernel_rfl
theorem z67 : zeroT Try.prog 67 = some (.agg ([.pointer none, .int .u64 0, .int .i64 0, .int .i64 0, .bool false] : List Value).toArray) := by kernel_rfl
theorem pl67 : placesT Try.prog 67 = some [(0, 1), (1, 1), (2, 1), (3, 1), (4, 1)] := by kernel_rfl
theorem fd67_0 : fieldT Try.prog 67 0 = some 0 := by kernel_rfl
theorem fd67_1 : fieldT Try.prog 67 1 = some 1 := by kernel_rfl
theorem fd67_2 : fieldT Try.prog 67 2 = some 2 := by kernel_rfl
theorem fd67_3 : fieldT Try.prog 67 3 = some 3 := by kernel_rfl
theorem fd67_4 : fieldT Try.prog 67 4 = some 4 := by kernel_rfl
theorem u68 : Try.prog.underlying 68 = some (.slice 70) := by kernel_rfl
theorem a68 : aggT Try.prog 68 = some false := by kernel_rfl
theorem s68 : sizeT Try.prog 68 = some 1 := by kernel_rfl
theorem b68 : bytesT Try.prog 68 = some 24 := by kernel_rfl
theorem z68 : zeroT Try.prog 68 = some (.slice none 0 0) := by kernel_rfl
theorem el68 : elemT Try.prog 68 = some 70 := by kernel_rfl
theorem a69 : aggT Try.prog 69 = some true := by kernel_rfl
theorem s69 : sizeT Try.prog 69 = some 3 := by kernel_rfl
theorem b69 : bytesT Try.prog 69 = some 40 := by kernel_rfl
theorem z69 : zeroT Try.prog 69 = some (.agg ([.bool false, .int .i64 0, .slice none 0 0] : List Value).toArray) := by kernel_rfl
theorem pl69 : placesT Try.prog 69 = some [(0, 1), (1, 1), (2, 1)] := by kernel_rfl
theorem fd69_0 : fieldT Try.prog 69 0 = some 0 := by kernel_rfl
theorem fd69_1 : fieldT Try.prog 69 1 = some 1 := by kernel_rfl
theorem fd69_2 : fieldT Try.prog 69 2 = some 2 := by kernel_rfl
theorem a70 : aggT Try.prog 70 = some true := by kernel_rfl
theorem s70 : sizeT Try.prog 70 = some 3 := by kernel_rfl
theorem b70 : bytesT Try.prog 70 = some 40 := by kernel_rfl
theorem z70 : zeroT Try.prog 70 = some (.agg ([.bool false, .int .i64 0, .slice none 0 0] : List Value).toArray) := by kernel_rfl
theorem pl70 : placesT Try.prog 70 = some [(0, 1), (1, 1), (2, 1)] := by kernel_rfl
theorem fd70_0 : fieldT Try.prog 70 0 = some 0 := by kernel_rfl
theorem fd70_1 : fieldT Try.prog 70 1 = some 1 := by kernel_rfl
theorem fd70_2 : fieldT Try.prog 70 2 = some 2 := by kernel_rfl
theorem u72 : Try.prog.underlying 72 = some (.slice 75) := by kernel_rfl
theorem a72 : aggT Try.prog 72 = some false := by kernel_rfl
theorem s72 : sizeT Try.prog 72 = some 1 := by kernel_rfl
theorem b72 : bytesT Try.prog 72 = some 24 := by kernel_rfl
theorem z72 : zeroT Try.prog 72 = some (.slice none 0 0) := by kernel_rfl
theorem el72 : elemT Try.prog 72 = some 75 := by kernel_rfl
theorem a73 : aggT Try.prog 73 = some true := by kernel_rfl
theorem s73 : sizeT Try.prog 73 = some 3 := by kernel_rfl
theorem b73 : bytesT Try.prog 73 = some 40 := by kernel_rfl
theorem z73 : zeroT Try.prog 73 = some (.agg ([.slice none 0 0, .int .i64 0, .int .i64 0] : List Value).toArray) := by kernel_rfl
theorem pl73 : placesT Try.prog 73 = some [(0, 1), (1, 1), (2, 1)] := by kernel_rfl
theorem fd73_0 : fieldT Try.prog 73 0 = some 0 := by kernel_rfl
theorem fd73_1 : fieldT Try.prog 73 1 = some 1 := by kernel_rfl
theorem fd73_2 : fieldT Try.prog 73 2 = some 2 := by kernel_rfl
theorem a74 : aggT Try.prog 74 = some true := by kernel_rfl
theorem s74 : sizeT Try.prog 74 = some 3 := by kernel_rfl
theorem b74 : bytesT Try.prog 74 = some 40 := by kernel_rfl
theorem z74 : zeroT Try.prog 74 = some (.agg ([.slice none 0 0, .int .i64 0, .int .i64 0] : List Value).toArray) := by kernel_rfl
theorem pl74 : placesT Try.prog 74 = some [(0, 1), (1, 1), (2, 1)] := by kernel_rfl
theorem fd74_0 : fieldT Try.prog 74 0 = some 0 := by kernel_rfl
theorem fd74_1 : fieldT Try.prog 74 1 = some 1 := by kernel_rfl
theorem fd74_2 : fieldT Try.prog 74 2 = some 2 := by kernel_rfl
theorem u75 : Try.prog.underlying 75 = some (.array 64 5) := by kernel_rfl
theorem a75 : aggT Try.prog 75 = some true := by kernel_rfl
theorem s75 : sizeT Try.prog 75 = some 64 := by kernel_rfl
theorem b75 : bytesT Try.prog 75 = some 64 := by kernel_rfl
theorem z75 : zeroT Try.prog 75 = some (.agg (List.replicate 64 (.int .u8 0) : List Value).toArray) := by kernel_rfl
theorem ar75 : arrT Try.prog 75 = some (64, 5) := by kernel_rfl
theorem a79 : aggT Try.prog 79 = some true := by kernel_rfl
theorem s79 : sizeT Try.prog 79 = some 5 := by kernel_rfl
theorem b79 : bytesT Try.prog 79 = some 40 := by kernel_rfl
theorem z79 : zeroT Try.prog 79 = some (.agg ([.pointer none, .int .u64 0, .int .i64 0, .int .i64 0, .bool false] : List Value).toArray) := by kernel_rfl
theorem pl79 : placesT Try.prog 79 = some [(0, 1), (1, 1), (2, 1), (3, 1), (4, 1)] := by kernel_rfl
theorem fd79_0 : fieldT Try.prog 79 0 = some 0 := by kernel_rfl
theorem fd79_1 : fieldT Try.prog 79 1 = some 1 := by kernel_rfl
theorem fd79_2 : fieldT Try.prog 79 2 = some 2 := by kernel_rfl
theorem fd79_3 : fieldT Try.prog 79 3 = some 3 := by kernel_rfl
theorem fd79_4 : fieldT Try.prog 79 4 = some 4 := by kernel_rfl
theorem a80 : aggT Try.prog 80 = some true := by kernel_rfl
theorem s80 : sizeT Try.prog 80 = some 5 := by kernel_rfl
theorem b80 : bytesT Try.prog 80 = some 40 := by kernel_rfl
theorem z80 : zeroT Try.prog 80 = some (.agg ([.pointer none, .int .u64 0, .int .i64 0, .int .i64 0, .bool false] : List Value).toArray) := by kernel_rfl
theorem pl80 : placesT Try.prog 80 = some [(0, 1), (1, 1), (2, 1), (3, 1), (4, 1)] := by kernel_rfl
theorem fd80_0 : fieldT Try.prog 80 0 = some 0 := by kernel_rfl
theorem fd80_1 : fieldT Try.prog 80 1 = some 1 := by kernel_rfl
theorem fd80_2 : fieldT Try.prog 80 2 = some 2 := by kernel_rfl
theorem fd80_3 : fieldT Try.prog 80 3 = some 3 := by kernel_rfl
theorem fd80_4 : fieldT Try.prog 80 4 = some 4 := by kernel_rfl
theorem u84 : Try.prog.underlying 84 = some (.slice 65) := by kernel_rfl
theorem a84 : aggT Try.prog 84 = some false := by kernel_rfl
theorem s84 : sizeT Try.prog 84 = some 1 := by kernel_rfl
theorem b84 : bytesT Try.prog 84 = some 24 := by kernel_rfl
theorem z84 : zeroT Try.prog 84 = some (.slice none 0 0) := by kernel_rfl
theorem el84 : elemT Try.prog 84 = some 65 := by kernel_rfl
theorem u85 : Try.prog.underlying 85 = some (.array 3 65) := by kernel_rfl
theorem a85 : aggT Try.prog 85 = some true := by kernel_rfl
theorem s85 : sizeT Try.prog 85 = some 3 := by kernel_rfl
theorem b85 : bytesT Try.prog 85 = some 24 := by kernel_rfl
theorem z85 : zeroT Try.prog 85 = some (.agg ([.int .u64 0, .int .u64 0, .int .u64 0] : List Value).toArray) := by kernel_rfl
theorem ar85 : arrT Try.prog 85 = some (3, 65) := by kernel_rfl
theorem a87 : aggT Try.prog 87 = some true := by kernel_rfl
theorem s87 : sizeT Try.prog 87 = some 4 := by kernel_rfl
theorem b87 : bytesT Try.prog 87 = some 40 := by kernel_rfl
theorem z87 : zeroT Try.prog 87 = some (.agg ([.pointer none, .pointer none, .pointer none, .string ByteArray.empty] : List Value).toArray) := by kernel_rfl
theorem pl87 : placesT Try.prog 87 = some [(0, 1), (1, 1), (2, 1), (3, 1)] := by kernel_rfl
theorem fd87_0 : fieldT Try.prog 87 0 = some 0 := by kernel_rfl
theorem fd87_1 : fieldT Try.prog 87 1 = some 1 := by kernel_rfl
theorem fd87_2 : fieldT Try.prog 87 2 = some 2 := by kernel_rfl
theorem fd87_3 : fieldT Try.prog 87 3 = some 3 := by kernel_rfl
theorem a88 : aggT Try.prog 88 = some true := by kernel_rfl
theorem s88 : sizeT Try.prog 88 = some 4 := by kernel_rfl
theorem b88 : bytesT Try.prog 88 = some 40 := by kernel_rfl
theorem z88 : zeroT Try.prog 88 = some (.agg ([.pointer none, .pointer none, .pointer none, .string ByteArray.empty] : List Value).toArray) := by kernel_rfl
theorem pl88 : placesT Try.prog 88 = some [(0, 1), (1, 1), (2, 1), (3, 1)] := by kernel_rfl
theorem fd88_0 : fieldT Try.prog 88 0 = some 0 := by kernel_rfl
theorem fd88_1 : fieldT Try.prog 88 1 = some 1 := by kernel_rfl
theorem fd88_2 : fieldT Try.prog 88 2 = some 2 := by kernel_rfl
theorem fd88_3 : fieldT Try.prog 88 3 = some 3 := by kernel_rfl
theorem u89 : Try.prog.underlying 89 = some (.array 0 16) := by kernel_rfl
theorem a89 : aggT Try.prog 89 = some true := by kernel_rfl
theorem s89 : sizeT Try.prog 89 = some 0 := by kernel_rfl
theorem b89 : bytesT Try.prog 89 = some 0 := by kernel_rfl
theorem z89 : zeroT Try.prog 89 = some (.agg ([] : List Value).toArray) := by kernel_rfl
theorem ar89 : arrT Try.prog 89 = some (0, 16) := by kernel_rfl
theorem a90 : aggT Try.prog 90 = some true := by kernel_rfl
theorem s90 : sizeT Try.prog 90 = some 0 := by kernel_rfl
theorem b90 : bytesT Try.prog 90 = some 0 := by kernel_rfl
theorem z90 : zeroT Try.prog 90 = some (.agg ([] : List Value).toArray) := by kernel_rfl
theorem pl90 : placesT Try.prog 90 = some [(0, 0)] := by kernel_rfl
theorem a91 : aggT Try.prog 91 = some true := by kernel_rfl
theorem s91 : sizeT Try.prog 91 = some 0 := by kernel_rfl
theorem b91 : bytesT Try.prog 91 = some 0 := by kernel_rfl
theorem z91 : zeroT Try.prog 91 = some (.agg ([] : List Value).toArray) := by kernel_rfl
theorem pl91 : placesT Try.prog 91 = some [(0, 0)] := by kernel_rfl
theorem u92 : Try.prog.underlying 92 = some (.int .u32) := by kernel_rfl
theorem a92 : aggT Try.prog 92 = some false := by kernel_rfl
theorem s92 : sizeT Try.prog 92 = some 1 := by kernel_rfl
theorem b92 : bytesT Try.prog 92 = some 4 := by kernel_rfl
theorem z92 : zeroT Try.prog 92 = some (.int .u32 0) := by kernel_rfl
theorem u93 : Try.prog.underlying 93 = some (.int .u8) := by kernel_rfl
theorem a93 : aggT Try.prog 93 = some false := by kernel_rfl
theorem s93 : sizeT Try.prog 93 = some 1 := by kernel_rfl
theorem b93 : bytesT Try.prog 93 = some 1 := by kernel_rfl
theorem z93 : zeroT Try.prog 93 = some (.int .u8 0) := by kernel_rfl
theorem u94 : Try.prog.underlying 94 = some (.int .u8) := by kernel_rfl
theorem a94 : aggT Try.prog 94 = some false := by kernel_rfl
theorem s94 : sizeT Try.prog 94 = some 1 := by kernel_rfl
theorem b94 : bytesT Try.prog 94 = some 1 := by kernel_rfl
theorem z94 : zeroT Try.prog 94 = some (.int .u8 0) := by kernel_rfl
theorem u96 : Try.prog.underlying 96 = some (.pointer 5) := by kernel_rfl
theorem a96 : aggT Try.prog 96 = some false := by kernel_rfl
theorem s96 : sizeT Try.prog 96 = some 1 := by kernel_rfl
theorem b96 : bytesT Try.prog 96 = some 8 := by kernel_rfl
theorem z96 : zeroT Try.prog 96 = some (.pointer none) := by kernel_rfl
theorem u97 : Try.prog.underlying 97 = some (.int .i32) := by kernel_rfl
theorem a97 : aggT Try.prog 97 = some false := by kernel_rfl
theorem s97 : sizeT Try.prog 97 = some 1 := by kernel_rfl
theorem b97 : bytesT Try.prog 97 = some 4 := by kernel_rfl
theorem z97 : zeroT Try.prog 97 = some (.int .i32 0) := by kernel_rfl
theorem u98 : Try.prog.underlying 98 = some (.int .i32) := by kernel_rfl
theorem a98 : aggT Try.prog 98 = some false := by kernel_rfl
theorem s98 : sizeT Try.prog 98 = some 1 := by kernel_rfl
theorem b98 : bytesT Try.prog 98 = some 4 := by kernel_rfl
theorem z98 : zeroT Try.prog 98 = some (.int .i32 0) := by kernel_rfl
theorem a99 : aggT Try.prog 99 = some true := by kernel_rfl
theorem s99 : sizeT Try.prog 99 = some 11 := by kernel_rfl
theorem b99 : bytesT Try.prog 99 = some 48 := by kernel_rfl
theorem z99 : zeroT Try.prog 99 = some (.agg ([.int .u64 0, .int .u64 0, .int .u32 0] ++ List.replicate 4 (.int .u8 0) ++ [.nilFunc, .pointer none, .int .i32 0, .int .i32 0] : List Value).toArray) := by kernel_rfl
theorem pl99 : placesT Try.prog 99 = some [(0, 1), (1, 1), (2, 1), (3, 1), (4, 1), (5, 1), (6, 1), (7, 1), (8, 1), (9, 1), (10, 1)] := by kernel_rfl
theorem fd99_0 : fieldT Try.prog 99 0 = some 0 := by kernel_rfl
theorem fd99_1 : fieldT Try.prog 99 1 = some 1 := by kernel_rfl
theorem fd99_2 : fieldT Try.prog 99 2 = some 2 := by kernel_rfl
theorem fd99_3 : fieldT Try.prog 99 3 = some 3 := by kernel_rfl
theorem fd99_4 : fieldT Try.prog 99 4 = some 4 := by kernel_rfl
theorem fd99_5 : fieldT Try.prog 99 5 = some 5 := by kernel_rfl
theorem fd99_6 : fieldT Try.prog 99 6 = some 6 := by kernel_rfl
theorem fd99_7 : fieldT Try.prog 99 7 = some 7 := by kernel_rfl
theorem fd99_8 : fieldT Try.prog 99 8 = some 8 := by kernel_rfl
theorem fd99_9 : fieldT Try.prog 99 9 = some 9 := by kernel_rfl
theorem fd99_10 : fieldT Try.prog 99 10 = some 10 := by kernel_rfl
theorem a100 : aggT Try.prog 100 = some true := by kernel_rfl
theorem s100 : sizeT Try.prog 100 = some 11 := by kernel_rfl
theorem b100 : bytesT Try.prog 100 = some 48 := by kernel_rfl
theorem z100 : zeroT Try.prog 100 = some (.agg ([.int .u64 0, .int .u64 0, .int .u32 0] ++ List.replicate 4 (.int .u8 0) ++ [.nilFunc, .pointer none, .int .i32 0, .int .i32 0] : List Value).toArray) := by kernel_rfl
theorem pl100 : placesT Try.prog 100 = some [(0, 1), (1, 1), (2, 1), (3, 1), (4, 1), (5, 1), (6, 1), (7, 1), (8, 1), (9, 1), (10, 1)] := by kernel_rfl
theorem fd100_0 : fieldT Try.prog 100 0 = some 0 := by kernel_rfl
theorem fd100_1 : fieldT Try.prog 100 1 = some 1 := by kernel_rfl
theorem fd100_2 : fieldT Try.prog 100 2 = some 2 := by kernel_rfl
theorem fd100_3 : fieldT Try.prog 100 3 = some 3 := by kernel_rfl
theorem fd100_4 : fieldT Try.prog 100 4 = some 4 := by kernel_rfl
theorem fd100_5 : fieldT Try.prog 100 5 = some 5 := by kernel_rfl
theorem fd100_6 : fieldT Try.prog 100 6 = some 6 := by kernel_rfl
theorem fd100_7 : fieldT Try.prog 100 7 = some 7 := by kernel_rfl
theorem fd100_8 : fieldT Try.prog 100 8 = some 8 := by kernel_rfl
theorem fd100_9 : fieldT Try.prog 100 9 = some 9 := by kernel_rfl
theorem fd100_10 : fieldT Try.prog 100 10 = some 10 := by kernel_rfl
theorem a101 : aggT Try.prog 101 = some false := by kernel_rfl
theorem s101 : sizeT Try.prog 101 = some 1 := by kernel_rfl
theorem b101 : bytesT Try.prog 101 = some 8 := by kernel_rfl
theorem z101 : zeroT Try.prog 101 = some (.pointer none) := by kernel_rfl
theorem bd3 : bodyT Try.prog 3 = true := by kernel_rfl
theorem bd4 : bodyT Try.prog 4 = true := by kernel_rfl
theorem bd5 : bodyT Try.prog 5 = true := by kernel_rfl
theorem bd6 : bodyT Try.prog 6 = true := by kernel_rfl
theorem bd7 : bodyT Try.prog 7 = true := by kernel_rfl
theorem bd8 : bodyT Try.prog 8 = true := by kernel_rfl
theorem bd9 : bodyT Try.prog 9 = true := by kernel_rfl
theorem bd10 : bodyT Try.prog 10 = true := by kernel_rfl
theorem bd11 : bodyT Try.prog 11 = true := by kernel_rfl
theorem bd12 : bodyT Try.prog 12 = true := by kernel_rfl
theorem bd13 : bodyT Try.prog 13 = true := by kernel_rfl
theorem bd14 : bodyT Try.prog 14 = true := by kernel_rfl
theorem bd15 : bodyT Try.prog 15 = true := by kernel_rfl
theorem bd16 : bodyT Try.prog 16 = true := by kernel_rfl
theorem bd17 : bodyT Try.prog 17 = true := by kernel_rfl
theorem bd18 : bodyT Try.prog 18 = true := by kernel_rfl
theorem bd19 : bodyT Try.prog 19 = true := by kernel_rfl
theorem bd20 : bodyT Try.prog 20 = true := by kernel_rfl
theorem bd21 : bodyT Try.prog 21 = true := by kernel_rfl
theorem bd22 : bodyT Try.prog 22 = true := by kernel_rfl
theorem bd23 : bodyT Try.prog 23 = true := by kernel_rfl
theorem bd24 : bodyT Try.prog 24 = true := by kernel_rfl
theorem bd25 : bodyT Try.prog 25 = true := by kernel_rfl
theorem bd26 : bodyT Try.prog 26 = true := by kernel_rfl
theorem bd27 : bodyT Try.prog 27 = true := by kernel_rfl
theorem bd28 : bodyT Try.prog 28 = true := by kernel_rfl
theorem bd29 : bodyT Try.prog 29 = true := by kernel_rfl
theorem bd30 : bodyT Try.prog 30 = true := by kernel_rfl
theorem bd31 : bodyT Try.prog 31 = true := by kernel_rfl
theorem bd32 : bodyT Try.prog 32 = true := by kernel_rfl
theorem bd33 : bodyT Try.prog 33 = true := by kernel_rfl
theorem bd34 : bodyT Try.prog 34 = true := by kernel_rfl
theorem bd35 : bodyT Try.prog 35 = true := by kernel_rfl
theorem bd36 : bodyT Try.prog 36 = true := by kernel_rfl
theorem bd37 : bodyT Try.prog 37 = true := by kernel_rfl
theorem bd38 : bodyT Try.prog 38 = true := by kernel_rfl
theorem bd39 : bodyT Try.prog 39 = true := by kernel_rfl
theorem bd40 : bodyT Try.prog 40 = true := by kernel_rfl
theorem bd41 : bodyT Try.prog 41 = true := by kernel_rfl
theorem bd42 : bodyT Try.prog 42 = true := by kernel_rfl
theorem bd43 : bodyT Try.prog 43 = true := by kernel_rfl
theorem bd44 : bodyT Try.prog 44 = true := by kernel_rfl
end Ty
end Go.Proofs.Ytlmbpfgiadbjaaa

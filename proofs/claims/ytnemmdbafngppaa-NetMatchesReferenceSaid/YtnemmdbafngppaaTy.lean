/- The closed facts on the types of this translation. Printed by wip/tools/gen.py. No condition. -/
import Derived.Test.YtnemmdbafngppaaAbs21
import Derived.Test.YtnemmdbafngppaaProg
set_option linter.unusedVariables false
namespace Go.Proofs.Ytnemmdbafngppaa.Net
open Go.Proofs.Ytnemmdbafngppaa.Abs
set_option maxRecDepth 100000
theorem mixed : Try.prog.follows .mixedOrders = true := by kernel_rfl
theorem ty1 : tyB Try.prog 1 = some (false, 1) := by kernel_rfl
theorem ze1 : zeroB Try.prog 1 = some [.nilFunc] := by kernel_rfl
theorem ty2 : tyB Try.prog 2 = some (false, 1) := by kernel_rfl
theorem ze2 : zeroB Try.prog 2 = some [.int .i64 0] := by kernel_rfl
theorem in2 : intB Try.prog 2 = some .i64 := by kernel_rfl
theorem ty3 : tyB Try.prog 3 = some (false, 1) := by kernel_rfl
theorem ze3 : zeroB Try.prog 3 = some [.int .i64 0] := by kernel_rfl
theorem in3 : intB Try.prog 3 = some .i64 := by kernel_rfl
theorem ty4 : tyB Try.prog 4 = some (false, 1) := by kernel_rfl
theorem ze4 : zeroB Try.prog 4 = some [.bool false] := by kernel_rfl
theorem bo4 : Try.prog.underlying 4 = some .bool := by kernel_rfl
theorem ty5 : tyB Try.prog 5 = some (false, 1) := by kernel_rfl
theorem ze5 : zeroB Try.prog 5 = some [.int .u8 0] := by kernel_rfl
theorem in5 : intB Try.prog 5 = some .u8 := by kernel_rfl
theorem ty6 : tyB Try.prog 6 = some (false, 1) := by kernel_rfl
theorem ze6 : zeroB Try.prog 6 = some [.int .u8 0] := by kernel_rfl
theorem in6 : intB Try.prog 6 = some .u8 := by kernel_rfl
theorem ty7 : tyB Try.prog 7 = some (true, 4) := by kernel_rfl
theorem ze7 : zeroB Try.prog 7 = some [.int .i64 0, .int .i64 0, .bool false, .int .u8 0] := by kernel_rfl
theorem fd7_0 : fdB Try.prog 7 0 = some (0, 2, 1) := by kernel_rfl
theorem fd7_1 : fdB Try.prog 7 1 = some (1, 3, 1) := by kernel_rfl
theorem fd7_2 : fdB Try.prog 7 2 = some (2, 4, 1) := by kernel_rfl
theorem fd7_3 : fdB Try.prog 7 3 = some (3, 6, 1) := by kernel_rfl
theorem pl7 : plB Try.prog 7 = some [(0, 1), (1, 1), (2, 1), (3, 1)] := by kernel_rfl
theorem eg7 : Try.prog.eqGuardType Try.prog.depth 7 = false := by kernel_rfl
theorem eq7 (a0 b0 : Int) (a1 b1 : Int) (a2 b2 : Bool) (a3 b3 : Int) : eqP Try.prog 10000 7 [.int .i64 a0, .int .i64 a1, .bool a2, .int .u8 a3] [.int .i64 b0, .int .i64 b1, .bool b2, .int .u8 b3] = some ((a0 == b0) && ((a1 == b1) && ((a2 == b2) && ((a3 == b3) && true)))) := by kernel_rfl
theorem ty8 : tyB Try.prog 8 = some (true, 4) := by kernel_rfl
theorem ze8 : zeroB Try.prog 8 = some [.int .i64 0, .int .i64 0, .bool false, .int .u8 0] := by kernel_rfl
theorem fd8_0 : fdB Try.prog 8 0 = some (0, 2, 1) := by kernel_rfl
theorem fd8_1 : fdB Try.prog 8 1 = some (1, 3, 1) := by kernel_rfl
theorem fd8_2 : fdB Try.prog 8 2 = some (2, 4, 1) := by kernel_rfl
theorem fd8_3 : fdB Try.prog 8 3 = some (3, 6, 1) := by kernel_rfl
theorem pl8 : plB Try.prog 8 = some [(0, 1), (1, 1), (2, 1), (3, 1)] := by kernel_rfl
theorem eg8 : Try.prog.eqGuardType Try.prog.depth 8 = false := by kernel_rfl
theorem eq8 (a0 b0 : Int) (a1 b1 : Int) (a2 b2 : Bool) (a3 b3 : Int) : eqP Try.prog 10000 8 [.int .i64 a0, .int .i64 a1, .bool a2, .int .u8 a3] [.int .i64 b0, .int .i64 b1, .bool b2, .int .u8 b3] = some ((a0 == b0) && ((a1 == b1) && ((a2 == b2) && ((a3 == b3) && true)))) := by kernel_rfl
theorem ty9 : tyB Try.prog 9 = some (false, 1) := by kernel_rfl
theorem ze9 : zeroB Try.prog 9 = some [.string ⟨#[]⟩] := by kernel_rfl
theorem st9 : Try.prog.underlying 9 = some .string := by kernel_rfl
theorem ty10 : tyB Try.prog 10 = some (false, 1) := by kernel_rfl
theorem ze10 : zeroB Try.prog 10 = some [.string ⟨#[]⟩] := by kernel_rfl
theorem st10 : Try.prog.underlying 10 = some .string := by kernel_rfl
theorem ty11 : tyB Try.prog 11 = some (false, 1) := by kernel_rfl
theorem ze11 : zeroB Try.prog 11 = some [.string ⟨#[]⟩] := by kernel_rfl
theorem st11 : Try.prog.underlying 11 = some .string := by kernel_rfl
theorem ty12 : tyB Try.prog 12 = some (false, 1) := by kernel_rfl
theorem ze12 : zeroB Try.prog 12 = some [.int .u64 0] := by kernel_rfl
theorem in12 : intB Try.prog 12 = some .u64 := by kernel_rfl
theorem ty13 : tyB Try.prog 13 = some (true, 2) := by kernel_rfl
theorem ze13 : zeroB Try.prog 13 = some [.string ⟨#[]⟩, .int .u64 0] := by kernel_rfl
theorem fd13_0 : fdB Try.prog 13 0 = some (0, 9, 1) := by kernel_rfl
theorem fd13_1 : fdB Try.prog 13 1 = some (1, 12, 1) := by kernel_rfl
theorem pl13 : plB Try.prog 13 = some [(0, 1), (1, 1)] := by kernel_rfl
theorem eg13 : Try.prog.eqGuardType Try.prog.depth 13 = false := by kernel_rfl
theorem ty14 : tyB Try.prog 14 = some (true, 2) := by kernel_rfl
theorem ze14 : zeroB Try.prog 14 = some [.string ⟨#[]⟩, .int .u64 0] := by kernel_rfl
theorem fd14_0 : fdB Try.prog 14 0 = some (0, 9, 1) := by kernel_rfl
theorem fd14_1 : fdB Try.prog 14 1 = some (1, 12, 1) := by kernel_rfl
theorem pl14 : plB Try.prog 14 = some [(0, 1), (1, 1)] := by kernel_rfl
theorem eg14 : Try.prog.eqGuardType Try.prog.depth 14 = false := by kernel_rfl
theorem ty15 : tyB Try.prog 15 = some (false, 1) := by kernel_rfl
theorem ze15 : zeroB Try.prog 15 = some [.pointer none] := by kernel_rfl
theorem ty16 : tyB Try.prog 16 = some (false, 1) := by kernel_rfl
theorem ze16 : zeroB Try.prog 16 = some [.pointer none] := by kernel_rfl
theorem ty17 : tyB Try.prog 17 = some (false, 1) := by kernel_rfl
theorem ze17 : zeroB Try.prog 17 = some [.pointer none] := by kernel_rfl
theorem ty18 : tyB Try.prog 18 = some (true, 1) := by kernel_rfl
theorem ze18 : zeroB Try.prog 18 = some [.pointer none] := by kernel_rfl
theorem fd18_0 : fdB Try.prog 18 0 = some (0, 17, 1) := by kernel_rfl
theorem pl18 : plB Try.prog 18 = some [(0, 1)] := by kernel_rfl
theorem ty19 : tyB Try.prog 19 = some (true, 1) := by kernel_rfl
theorem ze19 : zeroB Try.prog 19 = some [.pointer none] := by kernel_rfl
theorem fd19_0 : fdB Try.prog 19 0 = some (0, 17, 1) := by kernel_rfl
theorem pl19 : plB Try.prog 19 = some [(0, 1)] := by kernel_rfl
theorem ty20 : tyB Try.prog 20 = some (false, 1) := by kernel_rfl
theorem ze20 : zeroB Try.prog 20 = some [.nilIface] := by kernel_rfl
theorem ty21 : tyB Try.prog 21 = some (false, 1) := by kernel_rfl
theorem ze21 : zeroB Try.prog 21 = some [.int .i32 0] := by kernel_rfl
theorem in21 : intB Try.prog 21 = some .i32 := by kernel_rfl
theorem ty22 : tyB Try.prog 22 = some (false, 1) := by kernel_rfl
theorem ze22 : zeroB Try.prog 22 = some [.slice none 0 0] := by kernel_rfl
theorem sl22 : slB Try.prog 22 = some (47, 3, 3) := by kernel_rfl
theorem zc22 : ConvL ([.slice none 0 0].map T.v) [.slice 3 []] := .cons (.nil _) (.nil)
theorem ty23 : tyB Try.prog 23 = some (true, 3) := by kernel_rfl
theorem ze23 : zeroB Try.prog 23 = some [.int .i64 0, .int .i64 0, .int .i64 0] := by kernel_rfl
theorem ar23 : arB Try.prog 23 = some (3, 3, 1) := by kernel_rfl
theorem eg23 : Try.prog.eqGuardType Try.prog.depth 23 = false := by kernel_rfl
theorem eq23 (a0 b0 : Int) (a1 b1 : Int) (a2 b2 : Int) : eqP Try.prog 10000 23 [.int .i64 a0, .int .i64 a1, .int .i64 a2] [.int .i64 b0, .int .i64 b1, .int .i64 b2] = some ((a0 == b0) && ((a1 == b1) && ((a2 == b2) && true))) := by kernel_rfl
theorem ty24 : tyB Try.prog 24 = some (true, 3) := by kernel_rfl
theorem ze24 : zeroB Try.prog 24 = some [.int .i64 0, .int .i64 0, .int .i64 0] := by kernel_rfl
theorem fd24_0 : fdB Try.prog 24 0 = some (0, 3, 1) := by kernel_rfl
theorem fd24_1 : fdB Try.prog 24 1 = some (1, 3, 1) := by kernel_rfl
theorem fd24_2 : fdB Try.prog 24 2 = some (2, 3, 1) := by kernel_rfl
theorem pl24 : plB Try.prog 24 = some [(0, 1), (1, 1), (2, 1)] := by kernel_rfl
theorem eg24 : Try.prog.eqGuardType Try.prog.depth 24 = false := by kernel_rfl
theorem eq24 (a0 b0 : Int) (a1 b1 : Int) (a2 b2 : Int) : eqP Try.prog 10000 24 [.int .i64 a0, .int .i64 a1, .int .i64 a2] [.int .i64 b0, .int .i64 b1, .int .i64 b2] = some ((a0 == b0) && ((a1 == b1) && ((a2 == b2) && true))) := by kernel_rfl
theorem ty25 : tyB Try.prog 25 = some (true, 3) := by kernel_rfl
theorem ze25 : zeroB Try.prog 25 = some [.int .i64 0, .int .i64 0, .int .i64 0] := by kernel_rfl
theorem fd25_0 : fdB Try.prog 25 0 = some (0, 3, 1) := by kernel_rfl
theorem fd25_1 : fdB Try.prog 25 1 = some (1, 3, 1) := by kernel_rfl
theorem fd25_2 : fdB Try.prog 25 2 = some (2, 3, 1) := by kernel_rfl
theorem pl25 : plB Try.prog 25 = some [(0, 1), (1, 1), (2, 1)] := by kernel_rfl
theorem eg25 : Try.prog.eqGuardType Try.prog.depth 25 = false := by kernel_rfl
theorem eq25 (a0 b0 : Int) (a1 b1 : Int) (a2 b2 : Int) : eqP Try.prog 10000 25 [.int .i64 a0, .int .i64 a1, .int .i64 a2] [.int .i64 b0, .int .i64 b1, .int .i64 b2] = some ((a0 == b0) && ((a1 == b1) && ((a2 == b2) && true))) := by kernel_rfl
theorem ty26 : tyB Try.prog 26 = some (false, 1) := by kernel_rfl
theorem ze26 : zeroB Try.prog 26 = some [.nilFunc] := by kernel_rfl
theorem ty27 : tyB Try.prog 27 = some (false, 1) := by kernel_rfl
theorem ze27 : zeroB Try.prog 27 = some [.slice none 0 0] := by kernel_rfl
theorem sl27 : slB Try.prog 27 = some (25, 3, 24) := by kernel_rfl
theorem zc27 : ConvL ([.slice none 0 0].map T.v) [.slice 3 []] := .cons (.nil _) (.nil)
theorem ty28 : tyB Try.prog 28 = some (false, 1) := by kernel_rfl
theorem ze28 : zeroB Try.prog 28 = some [.slice none 0 0] := by kernel_rfl
theorem sl28 : slB Try.prog 28 = some (32, 2, 16) := by kernel_rfl
theorem zc28 : ConvL ([.slice none 0 0].map T.v) [.slice 2 []] := .cons (.nil _) (.nil)
theorem ty29 : tyB Try.prog 29 = some (true, 3) := by kernel_rfl
theorem ze29 : zeroB Try.prog 29 = some [.slice none 0 0, .slice none 0 0, .int .i64 0] := by kernel_rfl
theorem fd29_0 : fdB Try.prog 29 0 = some (0, 27, 1) := by kernel_rfl
theorem fd29_1 : fdB Try.prog 29 1 = some (1, 28, 1) := by kernel_rfl
theorem fd29_2 : fdB Try.prog 29 2 = some (2, 3, 1) := by kernel_rfl
theorem pl29 : plB Try.prog 29 = some [(0, 1), (1, 1), (2, 1)] := by kernel_rfl
theorem zc29 : ConvL ([.slice none 0 0, .slice none 0 0, .int .i64 0].map T.v) [.slice 3 [], .slice 2 [], .v (.int .i64 0)] := .cons (.nil _) (.cons (.nil _) (.cons (.refl _) (.nil)))
theorem ty30 : tyB Try.prog 30 = some (true, 3) := by kernel_rfl
theorem ze30 : zeroB Try.prog 30 = some [.slice none 0 0, .slice none 0 0, .int .i64 0] := by kernel_rfl
theorem fd30_0 : fdB Try.prog 30 0 = some (0, 27, 1) := by kernel_rfl
theorem fd30_1 : fdB Try.prog 30 1 = some (1, 28, 1) := by kernel_rfl
theorem fd30_2 : fdB Try.prog 30 2 = some (2, 3, 1) := by kernel_rfl
theorem pl30 : plB Try.prog 30 = some [(0, 1), (1, 1), (2, 1)] := by kernel_rfl
theorem zc30 : ConvL ([.slice none 0 0, .slice none 0 0, .int .i64 0].map T.v) [.slice 3 [], .slice 2 [], .v (.int .i64 0)] := .cons (.nil _) (.cons (.nil _) (.cons (.refl _) (.nil)))
theorem ty31 : tyB Try.prog 31 = some (false, 1) := by kernel_rfl
theorem ze31 : zeroB Try.prog 31 = some [.nilFunc] := by kernel_rfl
theorem ty32 : tyB Try.prog 32 = some (true, 2) := by kernel_rfl
theorem ze32 : zeroB Try.prog 32 = some [.int .i64 0, .int .i64 0] := by kernel_rfl
theorem ar32 : arB Try.prog 32 = some (2, 3, 1) := by kernel_rfl
theorem eg32 : Try.prog.eqGuardType Try.prog.depth 32 = false := by kernel_rfl
theorem eq32 (a0 b0 : Int) (a1 b1 : Int) : eqP Try.prog 10000 32 [.int .i64 a0, .int .i64 a1] [.int .i64 b0, .int .i64 b1] = some ((a0 == b0) && ((a1 == b1) && true)) := by kernel_rfl
theorem ty33 : tyB Try.prog 33 = some (false, 1) := by kernel_rfl
theorem ze33 : zeroB Try.prog 33 = some [.int .i64 0] := by kernel_rfl
theorem in33 : intB Try.prog 33 = some .i64 := by kernel_rfl
theorem ty34 : tyB Try.prog 34 = some (true, 5) := by kernel_rfl
theorem ze34 : zeroB Try.prog 34 = some [.slice none 0 0, .slice none 0 0, .int .i64 0, .int .i64 0, .int .i64 0] := by kernel_rfl
theorem fd34_0 : fdB Try.prog 34 0 = some (0, 30, 3) := by kernel_rfl
theorem fd34_1 : fdB Try.prog 34 1 = some (3, 3, 1) := by kernel_rfl
theorem fd34_2 : fdB Try.prog 34 2 = some (4, 33, 1) := by kernel_rfl
theorem pl34 : plB Try.prog 34 = some [(0, 3), (3, 1), (4, 1)] := by kernel_rfl
theorem zc34 : ConvL ([.slice none 0 0, .slice none 0 0, .int .i64 0, .int .i64 0, .int .i64 0].map T.v) [.slice 3 [], .slice 2 [], .v (.int .i64 0), .v (.int .i64 0), .v (.int .i64 0)] := .cons (.nil _) (.cons (.nil _) (.cons (.refl _) (.cons (.refl _) (.cons (.refl _) (.nil)))))
theorem ty35 : tyB Try.prog 35 = some (true, 5) := by kernel_rfl
theorem ze35 : zeroB Try.prog 35 = some [.slice none 0 0, .slice none 0 0, .int .i64 0, .int .i64 0, .int .i64 0] := by kernel_rfl
theorem fd35_0 : fdB Try.prog 35 0 = some (0, 30, 3) := by kernel_rfl
theorem fd35_1 : fdB Try.prog 35 1 = some (3, 3, 1) := by kernel_rfl
theorem fd35_2 : fdB Try.prog 35 2 = some (4, 33, 1) := by kernel_rfl
theorem pl35 : plB Try.prog 35 = some [(0, 3), (3, 1), (4, 1)] := by kernel_rfl
theorem zc35 : ConvL ([.slice none 0 0, .slice none 0 0, .int .i64 0, .int .i64 0, .int .i64 0].map T.v) [.slice 3 [], .slice 2 [], .v (.int .i64 0), .v (.int .i64 0), .v (.int .i64 0)] := .cons (.nil _) (.cons (.nil _) (.cons (.refl _) (.cons (.refl _) (.cons (.refl _) (.nil)))))
theorem ty36 : tyB Try.prog 36 = some (false, 1) := by kernel_rfl
theorem ze36 : zeroB Try.prog 36 = some [.nilFunc] := by kernel_rfl
theorem ty37 : tyB Try.prog 37 = some (false, 1) := by kernel_rfl
theorem ze37 : zeroB Try.prog 37 = some [.nilFunc] := by kernel_rfl
theorem ty38 : tyB Try.prog 38 = some (false, 1) := by kernel_rfl
theorem ze38 : zeroB Try.prog 38 = some [.nilFunc] := by kernel_rfl
theorem ty39 : tyB Try.prog 39 = some (true, 7) := by kernel_rfl
theorem ze39 : zeroB Try.prog 39 = some [.slice none 0 0, .slice none 0 0, .int .i64 0, .int .i64 0, .int .i64 0, .int .i64 0, .int .i64 0] := by kernel_rfl
theorem fd39_0 : fdB Try.prog 39 0 = some (0, 30, 3) := by kernel_rfl
theorem fd39_1 : fdB Try.prog 39 1 = some (3, 25, 3) := by kernel_rfl
theorem fd39_2 : fdB Try.prog 39 2 = some (6, 33, 1) := by kernel_rfl
theorem pl39 : plB Try.prog 39 = some [(0, 3), (3, 3), (6, 1)] := by kernel_rfl
theorem zc39 : ConvL ([.slice none 0 0, .slice none 0 0, .int .i64 0, .int .i64 0, .int .i64 0, .int .i64 0, .int .i64 0].map T.v) [.slice 3 [], .slice 2 [], .v (.int .i64 0), .v (.int .i64 0), .v (.int .i64 0), .v (.int .i64 0), .v (.int .i64 0)] := .cons (.nil _) (.cons (.nil _) (.cons (.refl _) (.cons (.refl _) (.cons (.refl _) (.cons (.refl _) (.cons (.refl _) (.nil)))))))
theorem ty40 : tyB Try.prog 40 = some (true, 7) := by kernel_rfl
theorem ze40 : zeroB Try.prog 40 = some [.slice none 0 0, .slice none 0 0, .int .i64 0, .int .i64 0, .int .i64 0, .int .i64 0, .int .i64 0] := by kernel_rfl
theorem fd40_0 : fdB Try.prog 40 0 = some (0, 30, 3) := by kernel_rfl
theorem fd40_1 : fdB Try.prog 40 1 = some (3, 25, 3) := by kernel_rfl
theorem fd40_2 : fdB Try.prog 40 2 = some (6, 33, 1) := by kernel_rfl
theorem pl40 : plB Try.prog 40 = some [(0, 3), (3, 3), (6, 1)] := by kernel_rfl
theorem zc40 : ConvL ([.slice none 0 0, .slice none 0 0, .int .i64 0, .int .i64 0, .int .i64 0, .int .i64 0, .int .i64 0].map T.v) [.slice 3 [], .slice 2 [], .v (.int .i64 0), .v (.int .i64 0), .v (.int .i64 0), .v (.int .i64 0), .v (.int .i64 0)] := .cons (.nil _) (.cons (.nil _) (.cons (.refl _) (.cons (.refl _) (.cons (.refl _) (.cons (.refl _) (.cons (.refl _) (.nil)))))))
theorem ty41 : tyB Try.prog 41 = some (false, 1) := by kernel_rfl
theorem ze41 : zeroB Try.prog 41 = some [.nilFunc] := by kernel_rfl
theorem ty42 : tyB Try.prog 42 = some (false, 1) := by kernel_rfl
theorem ze42 : zeroB Try.prog 42 = some [.nilFunc] := by kernel_rfl
theorem ty43 : tyB Try.prog 43 = some (false, 1) := by kernel_rfl
theorem ze43 : zeroB Try.prog 43 = some [.nilFunc] := by kernel_rfl
theorem ty44 : tyB Try.prog 44 = some (false, 1) := by kernel_rfl
theorem ze44 : zeroB Try.prog 44 = some [.nilFunc] := by kernel_rfl
theorem ty45 : tyB Try.prog 45 = some (false, 1) := by kernel_rfl
theorem ze45 : zeroB Try.prog 45 = some [.nilFunc] := by kernel_rfl
theorem ty46 : tyB Try.prog 46 = some (false, 1) := by kernel_rfl
theorem ze46 : zeroB Try.prog 46 = some [.nilFunc] := by kernel_rfl
theorem ty47 : tyB Try.prog 47 = some (true, 3) := by kernel_rfl
theorem ze47 : zeroB Try.prog 47 = some [.int .u8 0, .int .u8 0, .int .u8 0] := by kernel_rfl
theorem ar47 : arB Try.prog 47 = some (3, 5, 1) := by kernel_rfl
theorem eg47 : Try.prog.eqGuardType Try.prog.depth 47 = false := by kernel_rfl
theorem eq47 (a0 b0 : Int) (a1 b1 : Int) (a2 b2 : Int) : eqP Try.prog 10000 47 [.int .u8 a0, .int .u8 a1, .int .u8 a2] [.int .u8 b0, .int .u8 b1, .int .u8 b2] = some ((a0 == b0) && ((a1 == b1) && ((a2 == b2) && true))) := by kernel_rfl
theorem ty48 : tyB Try.prog 48 = some (false, 1) := by kernel_rfl
theorem ze48 : zeroB Try.prog 48 = some [.nilFunc] := by kernel_rfl
theorem ty49 : tyB Try.prog 49 = some (false, 1) := by kernel_rfl
theorem ze49 : zeroB Try.prog 49 = some [.nilFunc] := by kernel_rfl
theorem ty50 : tyB Try.prog 50 = some (false, 1) := by kernel_rfl
theorem ze50 : zeroB Try.prog 50 = some [.slice none 0 0] := by kernel_rfl
theorem sl50 : slB Try.prog 50 = some (52, 2, 2) := by kernel_rfl
theorem zc50 : ConvL ([.slice none 0 0].map T.v) [.slice 2 []] := .cons (.nil _) (.nil)
theorem ty51 : tyB Try.prog 51 = some (false, 1) := by kernel_rfl
theorem ze51 : zeroB Try.prog 51 = some [.slice none 0 0] := by kernel_rfl
theorem sl51 : slB Try.prog 51 = some (5, 1, 1) := by kernel_rfl
theorem zc51 : ConvL ([.slice none 0 0].map T.v) [.slice 1 []] := .cons (.nil _) (.nil)
theorem ty52 : tyB Try.prog 52 = some (true, 2) := by kernel_rfl
theorem ze52 : zeroB Try.prog 52 = some [.int .u8 0, .int .u8 0] := by kernel_rfl
theorem ar52 : arB Try.prog 52 = some (2, 5, 1) := by kernel_rfl
theorem eg52 : Try.prog.eqGuardType Try.prog.depth 52 = false := by kernel_rfl
theorem eq52 (a0 b0 : Int) (a1 b1 : Int) : eqP Try.prog 10000 52 [.int .u8 a0, .int .u8 a1] [.int .u8 b0, .int .u8 b1] = some ((a0 == b0) && ((a1 == b1) && true)) := by kernel_rfl
theorem ty53 : tyB Try.prog 53 = some (false, 1) := by kernel_rfl
theorem ze53 : zeroB Try.prog 53 = some [.nilFunc] := by kernel_rfl
theorem ty54 : tyB Try.prog 54 = some (false, 1) := by kernel_rfl
theorem ze54 : zeroB Try.prog 54 = some [.nilFunc] := by kernel_rfl
theorem ty55 : tyB Try.prog 55 = some (false, 1) := by kernel_rfl
theorem ze55 : zeroB Try.prog 55 = some [.nilFunc] := by kernel_rfl
theorem ty56 : tyB Try.prog 56 = some (false, 1) := by kernel_rfl
theorem ze56 : zeroB Try.prog 56 = some [.nilFunc] := by kernel_rfl
theorem ty57 : tyB Try.prog 57 = some (false, 1) := by kernel_rfl
theorem ze57 : zeroB Try.prog 57 = some [.nilFunc] := by kernel_rfl
theorem ty59 : tyB Try.prog 59 = some (false, 1) := by kernel_rfl
theorem ze59 : zeroB Try.prog 59 = some [.nilFunc] := by kernel_rfl
theorem ty60 : tyB Try.prog 60 = some (false, 1) := by kernel_rfl
theorem ze60 : zeroB Try.prog 60 = some [.nilFunc] := by kernel_rfl
theorem ty62 : tyB Try.prog 62 = some (false, 1) := by kernel_rfl
theorem ze62 : zeroB Try.prog 62 = some [.nilFunc] := by kernel_rfl
theorem ty63 : tyB Try.prog 63 = some (false, 1) := by kernel_rfl
theorem ze63 : zeroB Try.prog 63 = some [.nilFunc] := by kernel_rfl
theorem ty64 : tyB Try.prog 64 = some (false, 1) := by kernel_rfl
theorem ze64 : zeroB Try.prog 64 = some [.nilFunc] := by kernel_rfl
theorem ty66 : tyB Try.prog 66 = some (false, 1) := by kernel_rfl
theorem ze66 : zeroB Try.prog 66 = some [.nilFunc] := by kernel_rfl
theorem ty67 : tyB Try.prog 67 = some (false, 1) := by kernel_rfl
theorem ze67 : zeroB Try.prog 67 = some [.nilFunc] := by kernel_rfl
theorem ty68 : tyB Try.prog 68 = some (false, 1) := by kernel_rfl
theorem ze68 : zeroB Try.prog 68 = some [.nilFunc] := by kernel_rfl
theorem ty69 : tyB Try.prog 69 = some (false, 1) := by kernel_rfl
theorem ze69 : zeroB Try.prog 69 = some [.nilFunc] := by kernel_rfl
theorem ty71 : tyB Try.prog 71 = some (false, 1) := by kernel_rfl
theorem ze71 : zeroB Try.prog 71 = some [.nilFunc] := by kernel_rfl
theorem ty72 : tyB Try.prog 72 = some (false, 1) := by kernel_rfl
theorem ze72 : zeroB Try.prog 72 = some [.nilFunc] := by kernel_rfl
theorem ty73 : tyB Try.prog 73 = some (false, 1) := by kernel_rfl
theorem ze73 : zeroB Try.prog 73 = some [.nilFunc] := by kernel_rfl
theorem ty74 : tyB Try.prog 74 = some (false, 1) := by kernel_rfl
theorem ze74 : zeroB Try.prog 74 = some [.nilFunc] := by kernel_rfl
theorem ty76 : tyB Try.prog 76 = some (false, 1) := by kernel_rfl
theorem ze76 : zeroB Try.prog 76 = some [.nilFunc] := by kernel_rfl
theorem ty77 : tyB Try.prog 77 = some (false, 1) := by kernel_rfl
theorem ze77 : zeroB Try.prog 77 = some [.int .u64 0] := by kernel_rfl
theorem in77 : intB Try.prog 77 = some .u64 := by kernel_rfl
theorem ty78 : tyB Try.prog 78 = some (false, 1) := by kernel_rfl
theorem ze78 : zeroB Try.prog 78 = some [.nilFunc] := by kernel_rfl
theorem ty79 : tyB Try.prog 79 = some (false, 1) := by kernel_rfl
theorem ze79 : zeroB Try.prog 79 = some [.nilFunc] := by kernel_rfl
theorem ty80 : tyB Try.prog 80 = some (false, 1) := by kernel_rfl
theorem ze80 : zeroB Try.prog 80 = some [.nilFunc] := by kernel_rfl
theorem ty81 : tyB Try.prog 81 = some (false, 1) := by kernel_rfl
theorem ze81 : zeroB Try.prog 81 = some [.nilFunc] := by kernel_rfl
theorem ty82 : tyB Try.prog 82 = some (false, 1) := by kernel_rfl
theorem ze82 : zeroB Try.prog 82 = some [.nilFunc] := by kernel_rfl
theorem ty83 : tyB Try.prog 83 = some (false, 1) := by kernel_rfl
theorem ze83 : zeroB Try.prog 83 = some [.nilFunc] := by kernel_rfl
theorem ty84 : tyB Try.prog 84 = some (false, 1) := by kernel_rfl
theorem ze84 : zeroB Try.prog 84 = some [.nilFunc] := by kernel_rfl
theorem ty85 : tyB Try.prog 85 = some (false, 1) := by kernel_rfl
theorem ze85 : zeroB Try.prog 85 = some [.nilFunc] := by kernel_rfl
theorem ty86 : tyB Try.prog 86 = some (false, 1) := by kernel_rfl
theorem ze86 : zeroB Try.prog 86 = some [.nilFunc] := by kernel_rfl
theorem ty87 : tyB Try.prog 87 = some (false, 1) := by kernel_rfl
theorem ze87 : zeroB Try.prog 87 = some [.nilFunc] := by kernel_rfl
theorem ty88 : tyB Try.prog 88 = some (false, 1) := by kernel_rfl
theorem ze88 : zeroB Try.prog 88 = some [.slice none 0 0] := by kernel_rfl
theorem sl88 : slB Try.prog 88 = some (3, 1, 8) := by kernel_rfl
theorem zc88 : ConvL ([.slice none 0 0].map T.v) [.slice 1 []] := .cons (.nil _) (.nil)
theorem ty89 : tyB Try.prog 89 = some (false, 1) := by kernel_rfl
theorem ze89 : zeroB Try.prog 89 = some [.nilFunc] := by kernel_rfl
theorem ty90 : tyB Try.prog 90 = some (false, 1) := by kernel_rfl
theorem ze90 : zeroB Try.prog 90 = some [.nilFunc] := by kernel_rfl
theorem ty91 : tyB Try.prog 91 = some (false, 1) := by kernel_rfl
theorem ze91 : zeroB Try.prog 91 = some [.nilFunc] := by kernel_rfl
theorem ty92 : tyB Try.prog 92 = some (false, 1) := by kernel_rfl
theorem ze92 : zeroB Try.prog 92 = some [.nilFunc] := by kernel_rfl
theorem ty93 : tyB Try.prog 93 = some (false, 1) := by kernel_rfl
theorem ze93 : zeroB Try.prog 93 = some [.nilFunc] := by kernel_rfl
theorem ty94 : tyB Try.prog 94 = some (true, 4) := by kernel_rfl
theorem ze94 : zeroB Try.prog 94 = some [.pointer none, .pointer none, .pointer none, .string ⟨#[]⟩] := by kernel_rfl
theorem fd94_0 : fdB Try.prog 94 0 = some (0, 17, 1) := by kernel_rfl
theorem fd94_1 : fdB Try.prog 94 1 = some (1, 17, 1) := by kernel_rfl
theorem fd94_2 : fdB Try.prog 94 2 = some (2, 17, 1) := by kernel_rfl
theorem fd94_3 : fdB Try.prog 94 3 = some (3, 9, 1) := by kernel_rfl
theorem pl94 : plB Try.prog 94 = some [(0, 1), (1, 1), (2, 1), (3, 1)] := by kernel_rfl
theorem ty95 : tyB Try.prog 95 = some (true, 4) := by kernel_rfl
theorem ze95 : zeroB Try.prog 95 = some [.pointer none, .pointer none, .pointer none, .string ⟨#[]⟩] := by kernel_rfl
theorem fd95_0 : fdB Try.prog 95 0 = some (0, 17, 1) := by kernel_rfl
theorem fd95_1 : fdB Try.prog 95 1 = some (1, 17, 1) := by kernel_rfl
theorem fd95_2 : fdB Try.prog 95 2 = some (2, 17, 1) := by kernel_rfl
theorem fd95_3 : fdB Try.prog 95 3 = some (3, 9, 1) := by kernel_rfl
theorem pl95 : plB Try.prog 95 = some [(0, 1), (1, 1), (2, 1), (3, 1)] := by kernel_rfl
theorem ty96 : tyB Try.prog 96 = some (true, 0) := by kernel_rfl
theorem ze96 : zeroB Try.prog 96 = some [] := by kernel_rfl
theorem ar96 : arB Try.prog 96 = some (0, 16, 1) := by kernel_rfl
theorem eg96 : Try.prog.eqGuardType Try.prog.depth 96 = false := by kernel_rfl
theorem eq96  : eqP Try.prog 10000 96 [] [] = some true := by kernel_rfl
theorem ty97 : tyB Try.prog 97 = some (true, 0) := by kernel_rfl
theorem ze97 : zeroB Try.prog 97 = some [] := by kernel_rfl
theorem fd97_0 : fdB Try.prog 97 0 = some (0, 96, 0) := by kernel_rfl
theorem pl97 : plB Try.prog 97 = some [(0, 0)] := by kernel_rfl
theorem eg97 : Try.prog.eqGuardType Try.prog.depth 97 = false := by kernel_rfl
theorem ty98 : tyB Try.prog 98 = some (true, 0) := by kernel_rfl
theorem ze98 : zeroB Try.prog 98 = some [] := by kernel_rfl
theorem fd98_0 : fdB Try.prog 98 0 = some (0, 96, 0) := by kernel_rfl
theorem pl98 : plB Try.prog 98 = some [(0, 0)] := by kernel_rfl
theorem eg98 : Try.prog.eqGuardType Try.prog.depth 98 = false := by kernel_rfl
theorem ty99 : tyB Try.prog 99 = some (false, 1) := by kernel_rfl
theorem ze99 : zeroB Try.prog 99 = some [.nilFunc] := by kernel_rfl
theorem ty100 : tyB Try.prog 100 = some (false, 1) := by kernel_rfl
theorem ze100 : zeroB Try.prog 100 = some [.int .u32 0] := by kernel_rfl
theorem in100 : intB Try.prog 100 = some .u32 := by kernel_rfl
theorem ty101 : tyB Try.prog 101 = some (false, 1) := by kernel_rfl
theorem ze101 : zeroB Try.prog 101 = some [.int .u8 0] := by kernel_rfl
theorem in101 : intB Try.prog 101 = some .u8 := by kernel_rfl
theorem ty102 : tyB Try.prog 102 = some (false, 1) := by kernel_rfl
theorem ze102 : zeroB Try.prog 102 = some [.int .u8 0] := by kernel_rfl
theorem in102 : intB Try.prog 102 = some .u8 := by kernel_rfl
theorem ty103 : tyB Try.prog 103 = some (false, 1) := by kernel_rfl
theorem ze103 : zeroB Try.prog 103 = some [.nilFunc] := by kernel_rfl
theorem ty104 : tyB Try.prog 104 = some (false, 1) := by kernel_rfl
theorem ze104 : zeroB Try.prog 104 = some [.pointer none] := by kernel_rfl
theorem ty105 : tyB Try.prog 105 = some (false, 1) := by kernel_rfl
theorem ze105 : zeroB Try.prog 105 = some [.int .i32 0] := by kernel_rfl
theorem in105 : intB Try.prog 105 = some .i32 := by kernel_rfl
theorem ty106 : tyB Try.prog 106 = some (false, 1) := by kernel_rfl
theorem ze106 : zeroB Try.prog 106 = some [.int .i32 0] := by kernel_rfl
theorem in106 : intB Try.prog 106 = some .i32 := by kernel_rfl
theorem ty107 : tyB Try.prog 107 = some (true, 11) := by kernel_rfl
theorem ze107 : zeroB Try.prog 107 = some [.int .u64 0, .int .u64 0, .int .u32 0, .int .u8 0, .int .u8 0, .int .u8 0, .int .u8 0, .nilFunc, .pointer none, .int .i32 0, .int .i32 0] := by kernel_rfl
theorem fd107_0 : fdB Try.prog 107 0 = some (0, 12, 1) := by kernel_rfl
theorem fd107_1 : fdB Try.prog 107 1 = some (1, 12, 1) := by kernel_rfl
theorem fd107_2 : fdB Try.prog 107 2 = some (2, 100, 1) := by kernel_rfl
theorem fd107_3 : fdB Try.prog 107 3 = some (3, 101, 1) := by kernel_rfl
theorem fd107_4 : fdB Try.prog 107 4 = some (4, 5, 1) := by kernel_rfl
theorem fd107_5 : fdB Try.prog 107 5 = some (5, 5, 1) := by kernel_rfl
theorem fd107_6 : fdB Try.prog 107 6 = some (6, 102, 1) := by kernel_rfl
theorem fd107_7 : fdB Try.prog 107 7 = some (7, 103, 1) := by kernel_rfl
theorem fd107_8 : fdB Try.prog 107 8 = some (8, 104, 1) := by kernel_rfl
theorem fd107_9 : fdB Try.prog 107 9 = some (9, 105, 1) := by kernel_rfl
theorem fd107_10 : fdB Try.prog 107 10 = some (10, 106, 1) := by kernel_rfl
theorem pl107 : plB Try.prog 107 = some [(0, 1), (1, 1), (2, 1), (3, 1), (4, 1), (5, 1), (6, 1), (7, 1), (8, 1), (9, 1), (10, 1)] := by kernel_rfl
theorem ty108 : tyB Try.prog 108 = some (true, 11) := by kernel_rfl
theorem ze108 : zeroB Try.prog 108 = some [.int .u64 0, .int .u64 0, .int .u32 0, .int .u8 0, .int .u8 0, .int .u8 0, .int .u8 0, .nilFunc, .pointer none, .int .i32 0, .int .i32 0] := by kernel_rfl
theorem fd108_0 : fdB Try.prog 108 0 = some (0, 12, 1) := by kernel_rfl
theorem fd108_1 : fdB Try.prog 108 1 = some (1, 12, 1) := by kernel_rfl
theorem fd108_2 : fdB Try.prog 108 2 = some (2, 100, 1) := by kernel_rfl
theorem fd108_3 : fdB Try.prog 108 3 = some (3, 101, 1) := by kernel_rfl
theorem fd108_4 : fdB Try.prog 108 4 = some (4, 5, 1) := by kernel_rfl
theorem fd108_5 : fdB Try.prog 108 5 = some (5, 5, 1) := by kernel_rfl
theorem fd108_6 : fdB Try.prog 108 6 = some (6, 102, 1) := by kernel_rfl
theorem fd108_7 : fdB Try.prog 108 7 = some (7, 103, 1) := by kernel_rfl
theorem fd108_8 : fdB Try.prog 108 8 = some (8, 104, 1) := by kernel_rfl
theorem fd108_9 : fdB Try.prog 108 9 = some (9, 105, 1) := by kernel_rfl
theorem fd108_10 : fdB Try.prog 108 10 = some (10, 106, 1) := by kernel_rfl
theorem pl108 : plB Try.prog 108 = some [(0, 1), (1, 1), (2, 1), (3, 1), (4, 1), (5, 1), (6, 1), (7, 1), (8, 1), (9, 1), (10, 1)] := by kernel_rfl
end Go.Proofs.Ytnemmdbafngppaa.Net

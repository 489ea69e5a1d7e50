/- Parts of this proof, one after the other; each says what it proves. No condition. -/
import Derived.Test.YtnemmdbafngppaaMC
import Derived.Test.YtnemmdbafngppaaProg
/- The closed facts on the types of this translation. Printed by wip/tools/gen.py. No condition. -/
set_option linter.unusedVariables false
namespace Go.Proofs.Ytnemmdbafngppaa.Net
open Go.Proofs.Ytnemmdbafngppaa.Abs
set_option maxRecDepth 100000
theorem mixed : Try.prog.follows .mixedOrders = true := by kernel_rfl
theorem ty1 : tyB Try.prog 1 = some (false, 1) := by kernel_rfl
theorem ze1 : zeroB Try.prog 1 = some [.nilFunc] := by kernel_rfl
theorem ty2 : tyB Try.prog 2 = some (false, 1) := by kernel_rfl
theorem ze2 : zeroB Try.prog 2 = some [.int .i64 0] := by kernel_rfl
theorem in2 : intB Try.prog 2 = some .i64 := by kernel_rfl
theorem ty3 : tyB Try.prog 3 = some (false, 1) := by kernel_rfl
theorem ze3 : zeroB Try.prog 3 = some [.int .i64 0] := by kernel_rfl
theorem in3 : intB Try.prog 3 = some .i64 := by kernel_rfl
theorem ty4 : tyB Try.prog 4 = some (false, 1) := by kernel_rfl
theorem ze4 : zeroB Try.prog 4 = some [.bool false] := by kernel_rfl
theorem bo4 : Try.prog.underlying 4 = some .bool := by kernel_rfl
theorem ty5 : tyB Try.prog 5 = some (false, 1) := by kernel_rfl
theorem ze5 : zeroB Try.prog 5 = some [.int .u8 0] := by kernel_rfl
theorem in5 : intB Try.prog 5 = some .u8 := by kernel_rfl
theorem ty6 : tyB Try.prog 6 = some (false, 1) := by kernel_rfl
theorem ze6 : zeroB Try.prog 6 = some [.int .u8 0] := by kernel_rfl
theorem in6 : intB Try.prog 6 = some .u8 := by kernel_rfl
theorem ty7 : tyB Try.prog 7 = some (true, 4) := by kernel_rfl
theorem ze7 : zeroB Try.prog 7 = some [.int .i64 0, .int .i64 0, .bool false, .int .u8 0] := by kernel_rfl
theorem fd7_0 : fdB Try.prog 7 0 = some (0, 2, 1) := by kernel_rfl
theorem fd7_1 : fdB Try.prog 7 1 = some (1, 3, 1) := by kernel_rfl
theorem fd7_2 : fdB Try.prog 7 2 = some (2, 4, 1) := by kernel_rfl
theorem fd7_3 : fdB Try.prog 7 3 = some (3, 6, 1) := by kernel_rfl
theorem pl7 : plB Try.prog 7 = some [(0, 1), (1, 1), (2, 1), (3, 1)] := by kernel_rfl
theorem eg7 : Try.prog.eqGuardType Try.prog.depth 7 = false := by kernel_rfl
theorem eq7 (a0 b0 : Int) (a1 b1 : Int) (a2 b2 : Bool) (a3 b3 : Int) : eqP Try.prog 10000 7 [.int .i64 a0, .int .i64 a1, .bool a2, .int .u8 a3] [.int .i64 b0, .int .i64 b1, .bool b2, .int .u8 b3] = some ((a0 == b0) && ((a1 == b1) && ((a2 == b2) && ((a3 == b3) && true)))) := by kernel_rfl
theorem ty8 : tyB Try.prog 8 = some (true, 4) := by kernel_rfl
theorem ze8 : zeroB Try.prog 8 = some [.int .i64 0, .int .i64 0, .bool false, .int .u8 0] := by kernel_rfl
theorem fd8_0 : fdB Try.prog 8 0 = some (0, 2, 1) := by kernel_rfl
theorem fd8_1 : fdB Try.prog 8 1 = some (1, 3, 1) := by kernel_rfl
theorem fd8_2 : fdB Try.prog 8 2 = some (2, 4, 1) := by kernel_rfl
theorem fd8_3 : fdB Try.prog 8 3 = some (3, 6, 1) := by kernel_rfl
theorem pl8 : plB Try.prog 8 = some [(0, 1), (1, 1), (2, 1), (3, 1)] := by kernel_rfl
theorem eg8 : Try.prog.eqGuardType Try.prog.depth 8 = false := by kernel_rfl
theorem eq8 (a0 b0 : Int) (a1 b1 : Int) (a2 b2 : Bool) (a3 b3 : Int) : eqP Try.prog 10000 8 [.int .i64 a0, .int .i64 a1, .bool a2, .int .u8 a3] [.int .i64 b0, .int .i64 b1, .bool b2, .int .u8 b3] = some ((a0 == b0) && ((a1 == b1) && ((a2 == b2) && ((a3 == b3) && true)))) := by kernel_rfl
theorem ty9 : tyB Try.prog 9 = some (false, 1) := by kernel_rfl
theorem ze9 : zeroB Try.prog 9 = some [.string ⟨#[]⟩] := by kernel_rfl
theorem st9 : Try.prog.underlying 9 = some .string := by kernel_rfl
theorem ty10 : tyB Try.prog 10 = some (false, 1) := by kernel_rfl
theorem ze10 : zeroB Try.prog 10 = some [.string ⟨#[]⟩] := by kernel_rfl
theorem st10 : Try.prog.underlying 10 = some .string := by kernel_rfl
theorem ty11 : tyB Try.prog 11 = some (false, 1) := by kernel_rfl
theorem ze11 : zeroB Try.prog 11 = some [.string ⟨#[]⟩] := by kernel_rfl
theorem st11 : Try.prog.underlying 11 = some .string := by kernel_rfl
theorem ty12 : tyB Try.prog 12 = some (false, 1) := by kernel_rfl
theorem ze12 : zeroB Try.prog 12 = some [.int .u64 0] := by kernel_rfl
theorem in12 : intB Try.prog 12 = some .u64 := by kernel_rfl
theorem ty13 : tyB Try.prog 13 = some (true, 2) := by kernel_rfl
theorem ze13 : zeroB Try.prog 13 = some [.string ⟨#[]⟩, .int .u64 0] := by kernel_rfl
theorem fd13_0 : fdB Try.prog 13 0 = some (0, 9, 1) := by kernel_rfl
theorem fd13_1 : fdB Try.prog 13 1 = some (1, 12, 1) := by kernel_rfl
theorem pl13 : plB Try.prog 13 = some [(0, 1), (1, 1)] := by kernel_rfl
theorem eg13 : Try.prog.eqGuardType Try.prog.depth 13 = false := by kernel_rfl
theorem ty14 : tyB Try.prog 14 = some (true, 2) := by kernel_rfl
theorem ze14 : zeroB Try.prog 14 = some [.string ⟨#[]⟩, .int .u64 0] := by kernel_rfl
theorem fd14_0 : fdB Try.prog 14 0 = some (0, 9, 1) := by kernel_rfl
theorem fd14_1 : fdB Try.prog 14 1 = some (1, 12, 1) := by kernel_rfl
theorem pl14 : plB Try.prog 14 = some [(0, 1), (1, 1)] := by kernel_rfl
theorem eg14 : Try.prog.eqGuardType Try.prog.depth 14 = false := by kernel_rfl
theorem ty15 : tyB Try.prog 15 = some (false, 1) := by kernel_rfl
theorem ze15 : zeroB Try.prog 15 = some [.pointer none] := by kernel_rfl
theorem ty16 : tyB Try.prog 16 = some (false, 1) := by kernel_rfl
theorem ze16 : zeroB Try.prog 16 = some [.pointer none] := by kernel_rfl
theorem ty17 : tyB Try.prog 17 = some (false, 1) := by kernel_rfl
theorem ze17 : zeroB Try.prog 17 = some [.pointer none] := by kernel_rfl
theorem ty18 : tyB Try.prog 18 = some (true, 1) := by kernel_rfl
theorem ze18 : zeroB Try.prog 18 = some [.pointer none] := by kernel_rfl
theorem fd18_0 : fdB Try.prog 18 0 = some (0, 17, 1) := by kernel_rfl
theorem pl18 : plB Try.prog 18 = some [(0, 1)] := by kernel_rfl
theorem ty19 : tyB Try.prog 19 = some (true, 1) := by kernel_rfl
theorem ze19 : zeroB Try.prog 19 = some [.pointer none] := by kernel_rfl
theorem fd19_0 : fdB Try.prog 19 0 = some (0, 17, 1) := by kernel_rfl
theorem pl19 : plB Try.prog 19 = some [(0, 1)] := by kernel_rfl
theorem ty20 : tyB Try.prog 20 = some (false, 1) := by kernel_rfl
theorem ze20 : zeroB Try.prog 20 = some [.nilIface] := by kernel_rfl
theorem ty21 : tyB Try.prog 21 = some (false, 1) := by kernel_rfl
theorem ze21 : zeroB Try.prog 21 = some [.int .i32 0] := by kernel_rfl
theorem in21 : intB Try.prog 21 = some .i32 := by kernel_rfl
theorem ty22 : tyB Try.prog 22 = some (false, 1) := by kernel_rfl
theorem ze22 : zeroB Try.prog 22 = some [.slice none 0 0] := by kernel_rfl
theorem sl22 : slB Try.prog 22 = some (47, 3, 3) := by kernel_rfl
theorem zc22 : ConvL ([.slice none 0 0].map T.v) [.slice 3 []] := .cons (.nil _) (.nil)
theorem ty23 : tyB Try.prog 23 = some (true, 3) := by kernel_rfl
theorem ze23 : zeroB Try.prog 23 = some [.int .i64 0, .int .i64 0, .int .i64 0] := by kernel_rfl
theorem ar23 : arB Try.prog 23 = some (3, 3, 1) := by kernel_rfl
theorem eg23 : Try.prog.eqGuardType Try.prog.depth 23 = false := by kernel_rfl
theorem eq23 (a0 b0 : Int) (a1 b1 : Int) (a2 b2 : Int) : eqP Try.prog 10000 23 [.int .i64 a0, .int .i64 a1, .int .i64 a2] [.int .i64 b0, .int .i64 b1, .int .i64 b2] = some ((a0 == b0) && ((a1 == b1) && ((a2 == b2) && true))) := by kernel_rfl
theorem ty24 : tyB Try.prog 24 = some (true, 3) := by kernel_rfl
theorem ze24 : zeroB Try.prog 24 = some [.int .i64 0, .int .i64 0, .int .i64 0] := by kernel_rfl
theorem fd24_0 : fdB Try.prog 24 0 = some (0, 3, 1) := by kernel_rfl
theorem fd24_1 : fdB Try.prog 24 1 = some (1, 3, 1) := by kernel_rfl
theorem fd24_2 : fdB Try.prog 24 2 = some (2, 3, 1) := by kernel_rfl
theorem pl24 : plB Try.prog 24 = some [(0, 1), (1, 1), (2, 1)] := by kernel_rfl
theorem eg24 : Try.prog.eqGuardType Try.prog.depth 24 = false := by kernel_rfl
theorem eq24 (a0 b0 : Int) (a1 b1 : Int) (a2 b2 : Int) : eqP Try.prog 10000 24 [.int .i64 a0, .int .i64 a1, .int .i64 a2] [.int .i64 b0, .int .i64 b1, .int .i64 b2] = some ((a0 == b0) && ((a1 == b1) && ((a2 == b2) && true))) := by kernel_rfl
theorem ty25 : tyB Try.prog 25 = some (true, 3) := by kernel_rfl
theorem ze25 : zeroB Try.prog 25 = some [.int .i64 0, .int .i64 0, .int .i64 0] := by kernel_rfl
theorem fd25_0 : fdB Try.prog 25 0 = some (0, 3, 1) := by kernel_rfl
theorem fd25_1 : fdB Try.prog 25 1 = some (1, 3, 1) := by kernel_rfl
theorem fd25_2 : fdB Try.prog 25 2 = some (2, 3, 1) := by kernel_rfl
theorem pl25 : plB Try.prog 25 = some [(0, 1), (1, 1), (2, 1)] := by kernel_rfl
theorem eg25 : Try.prog.eqGuardType Try.prog.depth 25 = false := by kernel_rfl
theorem eq25 (a0 b0 : Int) (a1 b1 : Int) (a2 b2 : Int) : eqP Try.prog 10000 25 [.int .i64 a0, .int .i64 a1, .int .i64 a2] [.int .i64 b0, .int .i64 b1, .int .i64 b2] = some ((a0 == b0) && ((a1 == b1) && ((a2 == b2) && true))) := by kernel_rfl
theorem ty26 : tyB Try.prog 26 = some (false, 1) := by kernel_rfl
theorem ze26 : zeroB Try.prog 26 = some [.nilFunc] := by kernel_rfl
theorem ty27 : tyB Try.prog 27 = some (false, 1) := by kernel_rfl
theorem ze27 : zeroB Try.prog 27 = some [.slice none 0 0] := by kernel_rfl
theorem sl27 : slB Try.prog 27 = some (25, 3, 24) := by kernel_rfl
theorem zc27 : ConvL ([.slice none 0 0].map T.v) [.slice 3 []] := .cons (.nil _) (.nil)
theorem ty28 : tyB Try.prog 28 = some (false, 1) := by kernel_rfl
theorem ze28 : zeroB Try.prog 28 = some [.slice none 0 0] := by kernel_rfl
theorem sl28 : slB Try.prog 28 = some (32, 2, 16) := by kernel_rfl
theorem zc28 : ConvL ([.slice none 0 0].map T.v) [.slice 2 []] := .cons (.nil _) (.nil)
theorem ty29 : tyB Try.prog 29 = some (true, 3) := by kernel_rfl
theorem ze29 : zeroB Try.prog 29 = some [.slice none 0 0, .slice none 0 0, .int .i64 0] := by kernel_rfl
theorem fd29_0 : fdB Try.prog 29 0 = some (0, 27, 1) := by kernel_rfl
theorem fd29_1 : fdB Try.prog 29 1 = some (1, 28, 1) := by kernel_rfl
theorem fd29_2 : fdB Try.prog 29 2 = some (2, 3, 1) := by kernel_rfl
theorem pl29 : plB Try.prog 29 = some [(0, 1), (1, 1), (2, 1)] := by kernel_rfl
theorem zc29 : ConvL ([.slice none 0 0, .slice none 0 0, .int .i64 0].map T.v) [.slice 3 [], .slice 2 [], .v (.int .i64 0)] := .cons (.nil _) (.cons (.nil _) (.cons (.refl _) (.nil)))
theorem ty30 : tyB Try.prog 30 = some (true, 3) := by kernel_rfl
theorem ze30 : zeroB Try.prog 30 = some [.slice none 0 0, .slice none 0 0, .int .i64 0] := by kernel_rfl
theorem fd30_0 : fdB Try.prog 30 0 = some (0, 27, 1) := by kernel_rfl
theorem fd30_1 : fdB Try.prog 30 1 = some (1, 28, 1) := by kernel_rfl
theorem fd30_2 : fdB Try.prog 30 2 = some (2, 3, 1) := by kernel_rfl
theorem pl30 : plB Try.prog 30 = some [(0, 1), (1, 1), (2, 1)] := by kernel_rfl
theorem zc30 : ConvL ([.slice none 0 0, .slice none 0 0, .int .i64 0].map T.v) [.slice 3 [], .slice 2 [], .v (.int .i64 0)] := .cons (.nil _) (.cons (.nil _) (.cons (.refl _) (.nil)))
theorem ty31 : tyB Try.prog 31 = some (false, 1) := by kernel_rfl
theorem ze31 : zeroB Try.prog 31 = some [.nilFunc] := by kernel_rfl
theorem ty32 : tyB Try.prog 32 = some (true, 2) := by kernel_rfl
theorem ze32 : zeroB Try.prog 32 = some [.int .i64 0, .int .i64 0] := by kernel_rfl
theorem ar32 : arB Try.prog 32 = some (2, 3, 1) := by kernel_rfl
theorem eg32 : Try.prog.eqGuardType Try.prog.depth 32 = false := by kernel_rfl
theorem eq32 (a0 b0 : Int) (a1 b1 : Int) : eqP Try.prog 10000 32 [.int .i64 a0, .int .i64 a1] [.int .i64 b0, .int .i64 b1] = some ((a0 == b0) && ((a1 == b1) && true)) := by kernel_rfl
theorem ty33 : tyB Try.prog 33 = some (false, 1) := by kernel_rfl
theorem ze33 : zeroB Try.prog 33 = some [.int .i64 0] := by kernel_rfl
theorem in33 : intB Try.prog 33 = some .i64 := by kernel_rfl
theorem ty34 : tyB Try.prog 34 = some (true, 5) := by kernel_rfl
theorem ze34 : zeroB Try.prog 34 = some [.slice none 0 0, .slice none 0 0, .int .i64 0, .int .i64 0, .int .i64 0] := by kernel_rfl
theorem fd34_0 : fdB Try.prog 34 0 = some (0, 30, 3) := by kernel_rfl
theorem fd34_1 : fdB Try.prog 34 1 = some (3, 3, 1) := by kernel_rfl
theorem fd34_2 : fdB Try.prog 34 2 = some (4, 33, 1) := by kernel_rfl
theorem pl34 : plB Try.prog 34 = some [(0, 3), (3, 1), (4, 1)] := by kernel_rfl
theorem zc34 : ConvL ([.slice none 0 0, .slice none 0 0, .int .i64 0, .int .i64 0, .int .i64 0].map T.v) [.slice 3 [], .slice 2 [], .v (.int .i64 0), .v (.int .i64 0), .v (.int .i64 0)] := .cons (.nil _) (.cons (.nil _) (.cons (.refl _) (.cons (.refl _) (.cons (.refl _) (.nil)))))
theorem ty35 : tyB Try.prog 35 = some (true, 5) := by kernel_rfl
theorem ze35 : zeroB Try.prog 35 = some [.slice none 0 0, .slice none 0 0, .int .i64 0, .int .i64 0, .int .i64 0] := by kernel_rfl
theorem fd35_0 : fdB Try.prog 35 0 = some (0, 30, 3) := by kernel_rfl
theorem fd35_1 : fdB Try.prog 35 1 = some (3, 3, 1) := by kernel_rfl
theorem fd35_2 : fdB Try.prog 35 2 = some (4, 33, 1) := by kernel_rfl
theorem pl35 : plB Try.prog 35 = some [(0, 3), (3, 1), (4, 1)] := by kernel_rfl
theorem zc35 : ConvL ([.slice none 0 0, .slice none 0 0, .int .i64 0, .int .i64 0, .int .i64 0].map T.v) [.slice 3 [], .slice 2 [], .v (.int .i64 0), .v (.int .i64 0), .v (.int .i64 0)] := .cons (.nil _) (.cons (.nil _) (.cons (.refl _) (.cons (.refl _) (.cons (.refl _) (.nil)))))
theorem ty36 : tyB Try.prog 36 = some (false, 1) := by kernel_rfl
theorem ze36 : zeroB Try.prog 36 = some [.nilFunc] := by kernel_rfl
theorem ty37 : tyB Try.prog 37 = some (false, 1) := by kernel_rfl
theorem ze37 : zeroB Try.prog 37 = some [.nilFunc] := by kernel_rfl
theorem ty38 : tyB Try.prog 38 = some (false, 1) := by kernel_rfl
theorem ze38 : zeroB Try.prog 38 = some [.nilFunc] := by kernel_rfl
theorem ty39 : tyB Try.prog 39 = some (true, 7) := by kernel_rfl
theorem ze39 : zeroB Try.prog 39 = some [.slice none 0 0, .slice none 0 0, .int .i64 0, .int .i64 0, .int .i64 0, .int .i64 0, .int .i64 0] := by kernel_rfl
theorem fd39_0 : fdB Try.prog 39 0 = some (0, 30, 3) := by kernel_rfl
theorem fd39_1 : fdB Try.prog 39 1 = some (3, 25, 3) := by kernel_rfl
theorem fd39_2 : fdB Try.prog 39 2 = some (6, 33, 1) := by kernel_rfl
theorem pl39 : plB Try.prog 39 = some [(0, 3), (3, 3), (6, 1)] := by kernel_rfl
theorem zc39 : ConvL ([.slice none 0 0, .slice none 0 0, .int .i64 0, .int .i64 0, .int .i64 0, .int .i64 0, .int .i64 0].map T.v) [.slice 3 [], .slice 2 [], .v (.int .i64 0), .v (.int .i64 0), .v (.int .i64 0), .v (.int .i64 0), .v (.int .i64 0)] := .cons (.nil _) (.cons (.nil _) (.cons (.refl _) (.cons (.refl _) (.cons (.refl _) (.cons (.refl _) (.cons (.refl _) (.nil)))))))
theorem ty40 : tyB Try.prog 40 = some (true, 7) := by kernel_rfl
theorem ze40 : zeroB Try.prog 40 = some [.slice none 0 0, .slice none 0 0, .int .i64 0, .int .i64 0, .int .i64 0, .int .i64 0, .int .i64 0] := by kernel_rfl
theorem fd40_0 : fdB Try.prog 40 0 = some (0, 30, 3) := by kernel_rfl
theorem fd40_1 : fdB Try.prog 40 1 = some (3, 25, 3) := by kernel_rfl
theorem fd40_2 : fdB Try.prog 40 2 = some (6, 33, 1) := by kernel_rfl
theorem pl40 : plB Try.prog 40 = some [(0, 3), (3, 3), (6, 1)] := by kernel_rfl
theorem zc40 : ConvL ([.slice none 0 0, .slice none 0 0, .int .i64 0, .int .i64 0, .int .i64 0, .int .i64 0, .int .i64 0].map T.v) [.slice 3 [], .slice 2 [], .v (.int .i64 0), .v (.int .i64 0), .v (.int .i64 0), .v (.int .i64 0), .v (.int .i64 0)] := .cons (.nil _) (.cons (.nil _) (.cons (.refl _) (.cons (.refl _) (.cons (.refl _) (.cons (.refl _) (.cons (.refl _) (.nil)))))))
theorem ty41 : tyB Try.prog 41 = some (false, 1) := by kernel_rfl
theorem ze41 : zeroB Try.prog 41 = some [.nilFunc] := by kernel_rfl
theorem ty42 : tyB Try.prog 42 = some (false, 1) := by kernel_rfl
theorem ze42 : zeroB Try.prog 42 = some [.nilFunc] := by kernel_rfl
theorem ty43 : tyB Try.prog 43 = some (false, 1) := by kernel_rfl
theorem ze43 : zeroB Try.prog 43 = some [.nilFunc] := by kernel_rfl
theorem ty44 : tyB Try.prog 44 = some (false, 1) := by kernel_rfl
theorem ze44 : zeroB Try.prog 44 = some [.nilFunc] := by kernel_rfl
theorem ty45 : tyB Try.prog 45 = some (false, 1) := by kernel_rfl
theorem ze45 : zeroB Try.prog 45 = some [.nilFunc] := by kernel_rfl
theorem ty46 : tyB Try.prog 46 = some (false, 1) := by kernel_rfl
theorem ze46 : zeroB Try.prog 46 = some [.nilFunc] := by kernel_rfl
theorem ty47 : tyB Try.prog 47 = some (true, 3) := by kernel_rfl
theorem ze47 : zeroB Try.prog 47 = some [.int .u8 0, .int .u8 0, .int .u8 0] := by kernel_rfl
theorem ar47 : arB Try.prog 47 = some (3, 5, 1) := by kernel_rfl
theorem eg47 : Try.prog.eqGuardType Try.prog.depth 47 = false := by kernel_rfl
theorem eq47 (a0 b0 : Int) (a1 b1 : Int) (a2 b2 : Int) : eqP Try.prog 10000 47 [.int .u8 a0, .int .u8 a1, .int .u8 a2] [.int .u8 b0, .int .u8 b1, .int .u8 b2] = some ((a0 == b0) && ((a1 == b1) && ((a2 == b2) && true))) := by kernel_rfl
theorem ty48 : tyB Try.prog 48 = some (false, 1) := by kernel_rfl
theorem ze48 : zeroB Try.prog 48 = some [.nilFunc] := by kernel_rfl
theorem ty49 : tyB Try.prog 49 = some (false, 1) := by kernel_rfl
theorem ze49 : zeroB Try.prog 49 = some [.nilFunc] := by kernel_rfl
theorem ty50 : tyB Try.prog 50 = some (false, 1) := by kernel_rfl
theorem ze50 : zeroB Try.prog 50 = some [.slice none 0 0] := by kernel_rfl
theorem sl50 : slB Try.prog 50 = some (52, 2, 2) := by kernel_rfl
theorem zc50 : ConvL ([.slice none 0 0].map T.v) [.slice 2 []] := .cons (.nil _) (.nil)
theorem ty51 : tyB Try.prog 51 = some (false, 1) := by kernel_rfl
theorem ze51 : zeroB Try.prog 51 = some [.slice none 0 0] := by kernel_rfl
theorem sl51 : slB Try.prog 51 = some (5, 1, 1) := by kernel_rfl
theorem zc51 : ConvL ([.slice none 0 0].map T.v) [.slice 1 []] := .cons (.nil _) (.nil)
theorem ty52 : tyB Try.prog 52 = some (true, 2) := by kernel_rfl
theorem ze52 : zeroB Try.prog 52 = some [.int .u8 0, .int .u8 0] := by kernel_rfl
theorem ar52 : arB Try.prog 52 = some (2, 5, 1) := by kernel_rfl
theorem eg52 : Try.prog.eqGuardType Try.prog.depth 52 = false := by kernel_rfl
theorem eq52 (a0 b0 : Int) (a1 b1 : Int) : eqP Try.prog 10000 52 [.int .u8 a0, .int .u8 a1] [.int .u8 b0, .int .u8 b1] = some ((a0 == b0) && ((a1 == b1) && true)) := by kernel_rfl
theorem ty53 : tyB Try.prog 53 = some (false, 1) := by kernel_rfl
theorem ze53 : zeroB Try.prog 53 = some [.nilFunc] := by kernel_rfl
theorem ty54 : tyB Try.prog 54 = some (false, 1) := by kernel_rfl
theorem ze54 : zeroB Try.prog 54 = some [.nilFunc] := by kernel_rfl
theorem ty55 : tyB Try.prog 55 = some (false, 1) := by kernel_rfl
theorem ze55 : zeroB Try.prog 55 = some [.nilFunc] := by kernel_rfl
theorem ty56 : tyB Try.prog 56 = some (false, 1) := by kernel_rfl
theorem ze56 : zeroB Try.prog 56 = some [.nilFunc] := by kernel_rfl
theorem ty57 : tyB Try.prog 57 = some (false, 1) := by kernel_rfl
theorem ze57 : zeroB Try.prog 57 = some [.nilFunc] := by kernel_rfl
theorem ty59 : tyB Try.prog 59 = some (false, 1) := by kernel_rfl
theorem ze59 : zeroB Try.prog 59 = some [.nilFunc] := by kernel_rfl
theorem ty60 : tyB Try.prog 60 = some (false, 1) := by kernel_rfl
theorem ze60 : zeroB Try.prog 60 = some [.nilFunc] := by kernel_rfl
theorem ty62 : tyB Try.prog 62 = some (false, 1) := by kernel_rfl
theorem ze62 : zeroB Try.prog 62 = some [.nilFunc] := by kernel_rfl
theorem ty63 : tyB Try.prog 63 = some (false, 1) := by kernel_rfl
theorem ze63 : zeroB Try.prog 63 = some [.nilFunc] := by kernel_rfl
theorem ty64 : tyB Try.prog 64 = some (false, 1) := by kernel_rfl
theorem ze64 : zeroB Try.prog 64 = some [.nilFunc] := by kernel_rfl
theorem ty66 : tyB Try.prog 66 = some (false, 1) := by kernel_rfl
theorem ze66 : zeroB Try.prog 66 = some [.nilFunc] := by kernel_rfl
theorem ty67 : tyB Try.prog 67 = some (false, 1) := by kernel_rfl
theorem ze67 : zeroB Try.prog 67 = some [.nilFunc] := by kernel_rfl
theorem ty68 : tyB Try.prog 68 = some (false, 1) := by kernel_rfl
theorem ze68 : zeroB Try.prog 68 = some [.nilFunc] := by kernel_rfl
theorem ty69 : tyB Try.prog 69 = some (false, 1) := by kernel_rfl
theorem ze69 : zeroB Try.prog 69 = some [.nilFunc] := by kernel_rfl
theorem ty71 : tyB Try.prog 71 = some (false, 1) := by kernel_rfl
theorem ze71 : zeroB Try.prog 71 = some [.nilFunc] := by kernel_rfl
theorem ty72 : tyB Try.prog 72 = some (false, 1) := by kernel_rfl
theorem ze72 : zeroB Try.prog 72 = some [.nilFunc] := by kernel_rfl
theorem ty73 : tyB Try.prog 73 = some (false, 1) := by kernel_rfl
theorem ze73 : zeroB Try.prog 73 = some [.nilFunc] := by kernel_rfl
theorem ty74 : tyB Try.prog 74 = some (false, 1) := by kernel_rfl
theorem ze74 : zeroB Try.prog 74 = some [.nilFunc] := by kernel_rfl
theorem ty76 : tyB Try.prog 76 = some (false, 1) := by kernel_rfl
theorem ze76 : zeroB Try.prog 76 = some [.nilFunc] := by kernel_rfl
theorem ty77 : tyB Try.prog 77 = some (false, 1) := by kernel_rfl
theorem ze77 : zeroB Try.prog 77 = some [.int .u64 0] := by kernel_rfl
theorem in77 : intB Try.prog 77 = some .u64 := by kernel_rfl
theorem ty78 : tyB Try.prog 78 = some (false, 1) := by kernel_rfl
theorem ze78 : zeroB Try.prog 78 = some [.nilFunc] := by kernel_rfl
theorem ty79 : tyB Try.prog 79 = some (false, 1) := by kernel_rfl
theorem ze79 : zeroB Try.prog 79 = some [.nilFunc] := by kernel_rfl
theorem ty80 : tyB Try.prog 80 = some (false, 1) := by kernel_rfl
theorem ze80 : zeroB Try.prog 80 = some [.nilFunc] := by kernel_rfl
theorem ty81 : tyB Try.prog 81 = some (false, 1) := by kernel_rfl
theorem ze81 : zeroB Try.prog 81 = some [.nilFunc] := by kernel_rfl
theorem ty82 : tyB Try.prog 82 = some (false, 1) := by kernel_rfl
theorem ze82 : zeroB Try.prog 82 = some [.nilFunc] := by kernel_rfl
theorem ty83 : tyB Try.prog 83 = some (false, 1) := by kernel_rfl
theorem ze83 : zeroB Try.prog 83 = some [.nilFunc] := by kernel_rfl
theorem ty84 : tyB Try.prog 84 = some (false, 1) := by kernel_rfl
theorem ze84 : zeroB Try.prog 84 = some [.nilFunc] := by kernel_rfl
theorem ty85 : tyB Try.prog 85 = some (false, 1) := by kernel_rfl
theorem ze85 : zeroB Try.prog 85 = some [.nilFunc] := by kernel_rfl
theorem ty86 : tyB Try.prog 86 = some (false, 1) := by kernel_rfl
theorem ze86 : zeroB Try.prog 86 = some [.nilFunc] := by kernel_rfl
theorem ty87 : tyB Try.prog 87 = some (false, 1) := by kernel_rfl
theorem ze87 : zeroB Try.prog 87 = some [.nilFunc] := by kernel_rfl
theorem ty88 : tyB Try.prog 88 = some (false, 1) := by kernel_rfl
theorem ze88 : zeroB Try.prog 88 = some [.slice none 0 0] := by kernel_rfl
theorem sl88 : slB Try.prog 88 = some (3, 1, 8) := by kernel_rfl
theorem zc88 : ConvL ([.slice none 0 0].map T.v) [.slice 1 []] := .cons (.nil _) (.nil)
theorem ty89 : tyB Try.prog 89 = some (false, 1) := by kernel_rfl
theorem ze89 : zeroB Try.prog 89 = some [.nilFunc] := by kernel_rfl
theorem ty90 : tyB Try.prog 90 = some (false, 1) := by kernel_rfl
theorem ze90 : zeroB Try.prog 90 = some [.nilFunc] := by kernel_rfl
theorem ty91 : tyB Try.prog 91 = some (false, 1) := by kernel_rfl
theorem ze91 : zeroB Try.prog 91 = some [.nilFunc] := by kernel_rfl
theorem ty92 : tyB Try.prog 92 = some (false, 1) := by kernel_rfl
theorem ze92 : zeroB Try.prog 92 = some [.nilFunc] := by kernel_rfl
theorem ty93 : tyB Try.prog 93 = some (false, 1) := by kernel_rfl
theorem ze93 : zeroB Try.prog 93 = some [.nilFunc] := by kernel_rfl
theorem ty94 : tyB Try.prog 94 = some (true, 4) := by kernel_rfl
theorem ze94 : zeroB Try.prog 94 = some [.pointer none, .pointer none, .pointer none, .string ⟨#[]⟩] := by kernel_rfl
theorem fd94_0 : fdB Try.prog 94 0 = some (0, 17, 1) := by kernel_rfl
theorem fd94_1 : fdB Try.prog 94 1 = some (1, 17, 1) := by kernel_rfl
theorem fd94_2 : fdB Try.prog 94 2 = some (2, 17, 1) := by kernel_rfl
theorem fd94_3 : fdB Try.prog 94 3 = some (3, 9, 1) := by kernel_rfl
theorem pl94 : plB Try.prog 94 = some [(0, 1), (1, 1), (2, 1), (3, 1)] := by kernel_rfl
theorem ty95 : tyB Try.prog 95 = some (true, 4) := by kernel_rfl
theorem ze95 : zeroB Try.prog 95 = some [.pointer none, .pointer none, .pointer none, .string ⟨#[]⟩] := by kernel_rfl
theorem fd95_0 : fdB Try.prog 95 0 = some (0, 17, 1) := by kernel_rfl
theorem fd95_1 : fdB Try.prog 95 1 = some (1, 17, 1) := by kernel_rfl
theorem fd95_2 : fdB Try.prog 95 2 = some (2, 17, 1) := by kernel_rfl
theorem fd95_3 : fdB Try.prog 95 3 = some (3, 9, 1) := by kernel_rfl
theorem pl95 : plB Try.prog 95 = some [(0, 1), (1, 1), (2, 1), (3, 1)] := by kernel_rfl
theorem ty96 : tyB Try.prog 96 = some (true, 0) := by kernel_rfl
theorem ze96 : zeroB Try.prog 96 = some [] := by kernel_rfl
theorem ar96 : arB Try.prog 96 = some (0, 16, 1) := by kernel_rfl
theorem eg96 : Try.prog.eqGuardType Try.prog.depth 96 = false := by kernel_rfl
theorem eq96  : eqP Try.prog 10000 96 [] [] = some true := by kernel_rfl
theorem ty97 : tyB Try.prog 97 = some (true, 0) := by kernel_rfl
theorem ze97 : zeroB Try.prog 97 = some [] := by kernel_rfl
theorem fd97_0 : fdB Try.prog 97 0 = some (0, 96, 0) := by kernel_rfl
theorem pl97 : plB Try.prog 97 = some [(0, 0)] := by kernel_rfl
theorem eg97 : Try.prog.eqGuardType Try.prog.depth 97 = false := by kernel_rfl
theorem ty98 : tyB Try.prog 98 = some (true, 0) := by kernel_rfl
theorem ze98 : zeroB Try.prog 98 = some [] := by kernel_rfl
theorem fd98_0 : fdB Try.prog 98 0 = some (0, 96, 0) := by kernel_rfl
theorem pl98 : plB Try.prog 98 = some [(0, 0)] := by kernel_rfl
theorem eg98 : Try.prog.eqGuardType Try.prog.depth 98 = false := by kernel_rfl
theorem ty99 : tyB Try.prog 99 = some (false, 1) := by kernel_rfl
theorem ze99 : zeroB Try.prog 99 = some [.nilFunc] := by kernel_rfl
theorem ty100 : tyB Try.prog 100 = some (false, 1) := by kernel_rfl
theorem ze100 : zeroB Try.prog 100 = some [.int .u32 0] := by kernel_rfl
theorem in100 : intB Try.prog 100 = some .u32 := by kernel_rfl
theorem ty101 : tyB Try.prog 101 = some (false, 1) := by kernel_rfl
theorem ze101 : zeroB Try.prog 101 = some [.int .u8 0] := by kernel_rfl
theorem in101 : intB Try.prog 101 = some .u8 := by kernel_rfl
theorem ty102 : tyB Try.prog 102 = some (false, 1) := by kernel_rfl
theorem ze102 : zeroB Try.prog 102 = some [.int .u8 0] := by kernel_rfl
theorem in102 : intB Try.prog 102 = some .u8 := by kernel_rfl
theorem ty103 : tyB Try.prog 103 = some (false, 1) := by kernel_rfl
theorem ze103 : zeroB Try.prog 103 = some [.nilFunc] := by kernel_rfl
theorem ty104 : tyB Try.prog 104 = some (false, 1) := by kernel_rfl
theorem ze104 : zeroB Try.prog 104 = some [.pointer none] := by kernel_rfl
theorem ty105 : tyB Try.prog 105 = some (false, 1) := by kernel_rfl
theorem ze105 : zeroB Try.prog 105 = some [.int .i32 0] := by kernel_rfl
theorem in105 : intB Try.prog 105 = some .i32 := by kernel_rfl
theorem ty106 : tyB Try.prog 106 = some (false, 1) := by kernel_rfl
theorem ze106 : zeroB Try.prog 106 = some [.int .i32 0] := by kernel_rfl
theorem in106 : intB Try.prog 106 = some .i32 := by kernel_rfl
theorem ty107 : tyB Try.prog 107 = some (true, 11) := by kernel_rfl
theorem ze107 : zeroB Try.prog 107 = some [.int .u64 0, .int .u64 0, .int .u32 0, .int .u8 0, .int .u8 0, .int .u8 0, .int .u8 0, .nilFunc, .pointer none, .int .i32 0, .int .i32 0] := by kernel_rfl
theorem fd107_0 : fdB Try.prog 107 0 = some (0, 12, 1) := by kernel_rfl
theorem fd107_1 : fdB Try.prog 107 1 = some (1, 12, 1) := by kernel_rfl
theorem fd107_2 : fdB Try.prog 107 2 = some (2, 100, 1) := by kernel_rfl
theorem fd107_3 : fdB Try.prog 107 3 = some (3, 101, 1) := by kernel_rfl
theorem fd107_4 : fdB Try.prog 107 4 = some (4, 5, 1) := by kernel_rfl
theorem fd107_5 : fdB Try.prog 107 5 = some (5, 5, 1) := by kernel_rfl
theorem fd107_6 : fdB Try.prog 107 6 = some (6, 102, 1) := by kernel_rfl
theorem fd107_7 : fdB Try.prog 107 7 = some (7, 103, 1) := by kernel_rfl
theorem fd107_8 : fdB Try.prog 107 8 = some (8, 104, 1) := by kernel_rfl
theorem fd107_9 : fdB Try.prog 107 9 = some (9, 105, 1) := by kernel_rfl
theorem fd107_10 : fdB Try.prog 107 10 = some (10, 106, 1) := by kernel_rfl
theorem pl107 : plB Try.prog 107 = some [(0, 1), (1, 1), (2, 1), (3, 1), (4, 1), (5, 1), (6, 1), (7, 1), (8, 1), (9, 1), (10, 1)] := by kernel_rfl
theorem ty108 : tyB Try.prog 108 = some (true, 11) := by kernel_rfl
theorem ze108 : zeroB Try.prog 108 = some [.int .u64 0, .int .u64 0, .int .u32 0, .int .u8 0, .int .u8 0, .int .u8 0, .int .u8 0, .nilFunc, .pointer none, .int .i32 0, .int .i32 0] := by kernel_rfl
theorem fd108_0 : fdB Try.prog 108 0 = some (0, 12, 1) := by kernel_rfl
theorem fd108_1 : fdB Try.prog 108 1 = some (1, 12, 1) := by kernel_rfl
theorem fd108_2 : fdB Try.prog 108 2 = some (2, 100, 1) := by kernel_rfl
theorem fd108_3 : fdB Try.prog 108 3 = some (3, 101, 1) := by kernel_rfl
theorem fd108_4 : fdB Try.prog 108 4 = some (4, 5, 1) := by kernel_rfl
theorem fd108_5 : fdB Try.prog 108 5 = some (5, 5, 1) := by kernel_rfl
theorem fd108_6 : fdB Try.prog 108 6 = some (6, 102, 1) := by kernel_rfl
theorem fd108_7 : fdB Try.prog 108 7 = some (7, 103, 1) := by kernel_rfl
theorem fd108_8 : fdB Try.prog 108 8 = some (8, 104, 1) := by kernel_rfl
theorem fd108_9 : fdB Try.prog 108 9 = some (9, 105, 1) := by kernel_rfl
theorem fd108_10 : fdB Try.prog 108 10 = some (10, 106, 1) := by kernel_rfl
theorem pl108 : plB Try.prog 108 = some [(0, 1), (1, 1), (2, 1), (3, 1), (4, 1), (5, 1), (6, 1), (7, 1), (8, 1), (9, 1), (10, 1)] := by kernel_rfl
end Go.Proofs.Ytnemmdbafngppaa.Net

/- Contracts of functions of package slices, at this translation's types. Printed by wip/tools/lib.py. No condition. -/
set_option linter.unusedVariables false
set_option linter.unusedSimpArgs false
namespace Go.Proofs.Ytnemmdbafngppaa.Net
open Go.Proofs.Ytnemmdbafngppaa.Abs
set_option maxRecDepth 100000
set_option maxHeartbeats 4000000
theorem C50 (l : List T) (hb : l.length * 24 ≤ 140737488355328) : HasOwn Try.prog 50 [.slice 3 l] 25 3 l := by
  by_cases h0 : 0 < l.length
  ·
    refine HasOwn.intro 8 Try.func50 (by kernel_rfl) rfl rfl fun w ok => ?_
    refine AT.seq ?_
    refine AT.region ?_
    refine TrC.take rfl (step_assignN (sz := 3) rfl rfl) ?_
    refine TrC.done ?_
    refine AT.seq ?_
    refine AT.seq ?_
    refine AT.region ?_
    refine TrC.take rfl (step_move rfl rfl rfl) ?_
    refine TrC.take rfl (step_eqNilF rfl rfl (.refl _) h0 rfl sl27 rfl) ?_
    refine TrC.done ?_
    refine AT.condF rfl ?_
    refine AT.skip ?_
    refine AT.seq ?_
    refine AT.region ?_
    refine TrC.take rfl (step_buildSliceH rfl rfl sl27 ze25 rfl rfl rfl rfl rfl rfl rfl rfl rfl rfl rfl rfl rfl) ?_
    refine TrC.take rfl (step_move rfl rfl rfl) ?_
    refine TrC.take rfl (step_append rfl rfl rfl rfl rfl (.refl _) sl27 ze25 rfl rfl rfl (by first | (simp; done) | (simp; omega)) rfl rfl) ?_
    refine TrC.take rfl (step_assign rfl rfl rfl) ?_
    refine TrC.done ?_
    refine AT.ret ?_
    exact ⟨2, 7, rfl, rfl, rfl⟩
  · have hl : l = [] := List.eq_nil_of_length_eq_zero (by omega)
    subst hl
    refine HasOwn.intro 8 Try.func50 (by kernel_rfl) rfl rfl fun w ok => ?_
    refine AT.seq ?_
    refine AT.region ?_
    refine TrC.take rfl (step_assignN (sz := 3) rfl rfl) ?_
    refine TrC.done ?_
    refine AT.seq ?_
    refine AT.seq ?_
    refine AT.region ?_
    refine TrC.take rfl (step_move rfl rfl rfl) ?_
    refine TrC.take rfl (step_eqNil rfl rfl (.refl _) sl27 rfl) ?_
    refine TrC.done ?_
    refine AT.condU rfl ?_ ?_
    · refine AT.seq ?_
      refine AT.region ?_
      refine TrC.take rfl (step_assignR (E := 25) (sz := 3) rfl rfl rfl rfl) ?_
      refine TrC.done ?_
      refine AT.ret ?_
      exact ⟨2, 2, rfl, rfl, rfl⟩
    ·
      refine AT.skip ?_
      refine AT.seq ?_
      refine AT.region ?_
      refine TrC.take rfl (step_buildSliceH rfl rfl sl27 ze25 rfl rfl rfl rfl rfl rfl rfl rfl rfl rfl rfl rfl rfl) ?_
      refine TrC.take rfl (step_move rfl rfl rfl) ?_
      refine TrC.take rfl (step_append rfl rfl rfl rfl rfl (.refl _) sl27 ze25 rfl rfl rfl (by first | (simp; done) | (simp; omega)) rfl rfl) ?_
      refine TrC.take rfl (step_assign rfl rfl rfl) ?_
      refine TrC.done ?_
      refine AT.ret ?_
      exact ⟨2, 7, rfl, rfl, rfl⟩
theorem C52 (l : List T) (hb : l.length * 16 ≤ 140737488355328) : HasOwn Try.prog 52 [.slice 2 l] 32 2 l := by
  by_cases h0 : 0 < l.length
  ·
    refine HasOwn.intro 8 Try.func52 (by kernel_rfl) rfl rfl fun w ok => ?_
    refine AT.seq ?_
    refine AT.region ?_
    refine TrC.take rfl (step_assignN (sz := 2) rfl rfl) ?_
    refine TrC.done ?_
    refine AT.seq ?_
    refine AT.seq ?_
    refine AT.region ?_
    refine TrC.take rfl (step_move rfl rfl rfl) ?_
    refine TrC.take rfl (step_eqNilF rfl rfl (.refl _) h0 rfl sl28 rfl) ?_
    refine TrC.done ?_
    refine AT.condF rfl ?_
    refine AT.skip ?_
    refine AT.seq ?_
    refine AT.region ?_
    refine TrC.take rfl (step_buildSliceH rfl rfl sl28 ze32 rfl rfl rfl rfl rfl rfl rfl rfl rfl rfl rfl rfl rfl) ?_
    refine TrC.take rfl (step_move rfl rfl rfl) ?_
    refine TrC.take rfl (step_append rfl rfl rfl rfl rfl (.refl _) sl28 ze32 rfl rfl rfl (by first | (simp; done) | (simp; omega)) rfl rfl) ?_
    refine TrC.take rfl (step_assign rfl rfl rfl) ?_
    refine TrC.done ?_
    refine AT.ret ?_
    exact ⟨2, 7, rfl, rfl, rfl⟩
  · have hl : l = [] := List.eq_nil_of_length_eq_zero (by omega)
    subst hl
    refine HasOwn.intro 8 Try.func52 (by kernel_rfl) rfl rfl fun w ok => ?_
    refine AT.seq ?_
    refine AT.region ?_
    refine TrC.take rfl (step_assignN (sz := 2) rfl rfl) ?_
    refine TrC.done ?_
    refine AT.seq ?_
    refine AT.seq ?_
    refine AT.region ?_
    refine TrC.take rfl (step_move rfl rfl rfl) ?_
    refine TrC.take rfl (step_eqNil rfl rfl (.refl _) sl28 rfl) ?_
    refine TrC.done ?_
    refine AT.condU rfl ?_ ?_
    · refine AT.seq ?_
      refine AT.region ?_
      refine TrC.take rfl (step_assignR (E := 32) (sz := 2) rfl rfl rfl rfl) ?_
      refine TrC.done ?_
      refine AT.ret ?_
      exact ⟨2, 2, rfl, rfl, rfl⟩
    ·
      refine AT.skip ?_
      refine AT.seq ?_
      refine AT.region ?_
      refine TrC.take rfl (step_buildSliceH rfl rfl sl28 ze32 rfl rfl rfl rfl rfl rfl rfl rfl rfl rfl rfl rfl rfl) ?_
      refine TrC.take rfl (step_move rfl rfl rfl) ?_
      refine TrC.take rfl (step_append rfl rfl rfl rfl rfl (.refl _) sl28 ze32 rfl rfl rfl (by first | (simp; done) | (simp; omega)) rfl rfl) ?_
      refine TrC.take rfl (step_assign rfl rfl rfl) ?_
      refine TrC.done ?_
      refine AT.ret ?_
      exact ⟨2, 7, rfl, rfl, rfl⟩
theorem C60 (l : List T) (g : FuncId) (caps : List T) (p : T → Bool) (hl : l.length ≤ 9223372036854775806) (he : ∀ x ∈ l, ∃ cs, x = .agg cs ∧ cs.length = 2) (hp : ∀ x ∈ l, Has Try.prog g ([x] ++ caps) (.b (p x))) :
    Has Try.prog 60 [.slice 2 l, .clo g caps] (.i (match l.findIdx? p with | some i => (i : Int) | none => -1)) := by
  refine Has.intro 19 Try.func60 (by kernel_rfl) rfl rfl fun w ok => ?_
  refine AT.seq ?_
  refine AT.region ?_
  refine TrC.take rfl (step_assign rfl rfl rfl) ?_
  refine TrC.done ?_
  refine AT.seq ?_
  refine AT.seq ?_
  refine AT.region ?_
  refine TrC.take rfl (step_move rfl rfl rfl) ?_
  refine TrC.take rfl (step_lenT (rt := 0) rfl rfl sl28 rfl) ?_
  refine TrC.take rfl (step_move rfl rfl rfl) ?_
  refine TrC.done ?_
  refine AT.block ?_
  refine AT.loopP (fun i : Nat => i ≤ l.length ∧ ∀ j (h : j < l.length), j < i → p l[j] = false) (fun i => mkS [(0, .t (.slice 2 l)), (1, .t (.clo g caps)), (7, .t (.i l.length)), (8, .t (.i i))] []) (fun i => l.length - i) 0 ⟨by omega, fun j h hj => by omega⟩
    (fun a w hs => Sat.wk [] (.cons (.t (.refl _)) (.cons (.t (.refl _)) (.cons (.t (.refl _)) (.cons (.t (.refl _)) .nil)))) .nil rfl rfl a w hs) (fun i hpi => ?_)
  obtain ⟨hi, hpre⟩ := hpi
  refine AT.seq ?_
  refine AT.region ?_
  refine TrC.take rfl (step_bin rfl rfl rfl rfl rfl) ?_
  refine TrC.done ?_
  refine AT.seq ?_
  refine AT.cond rfl (fun h9 => ?_) (fun h9 => ?_)
  · have hlt : i < l.length := by simpa using h9
    obtain ⟨cs, hcs, hcl⟩ := he l[i] (List.getElem_mem hlt)
    obtain ⟨a0, a1, rfl⟩ : ∃ a0 a1, cs = [a0, a1] := by
      match cs, hcl with | [xa0, xa1], _ => exact ⟨xa0, xa1, rfl⟩
    have hget : l[i]? = some (.agg [a0, a1]) := by rw [List.getElem?_eq_getElem hlt, hcs]
    have hpi := hp l[i] (List.getElem_mem hlt)
    rw [hcs] at hpi
    refine AT.skip ?_
    refine AT.seq ?_
    refine AT.block ?_
    refine AT.seq ?_
    refine AT.region ?_
    refine TrC.take rfl (step_move rfl rfl rfl) ?_
    refine TrC.take rfl (step_assign rfl rfl rfl) ?_
    refine TrC.done ?_
    refine AT.seq ?_
    refine AT.region ?_
    refine TrC.take rfl (step_move rfl rfl rfl) ?_
    refine TrC.take rfl (step_move rfl rfl rfl) ?_
    refine TrC.take rfl (step_move rfl rfl rfl) ?_
    refine TrC.take rfl (step_indexAddrT (v := .agg [a0, a1]) rfl rfl rfl sl28 (by omega) (by simpa using hget) rfl rfl) ?_
    refine TrC.take rfl (step_loadTN rfl rfl ty32 rfl rfl) ?_
    refine TrC.take rfl (step_callC rfl rfl (.refl _) rfl hpi (ConvL.refl _) rfl) ?_
    refine TrC.done ?_
    refine AT.cond rfl (fun h16 => ?_) (fun h16 => ?_)
    · have hfi : l.findIdx? p = some i := findIdx_found hlt (by rw [hcs]; exact h16) hpre
      refine AT.seq ?_
      refine AT.region ?_
      refine TrC.take rfl (step_move rfl rfl rfl) ?_
      refine TrC.take rfl (step_assign rfl rfl rfl) ?_
      refine TrC.done ?_
      refine AT.ret ?_
      exact Ret.one rfl (ResR.tmp rfl (conv_i (by rw [hfi])))
    · refine AT.skip ?_
      refine AT.region ?_
      refine TrC.take rfl (step_addI rfl rfl rfl (by omega) (by omega) rfl) ?_
      refine TrC.take rfl (step_move rfl rfl rfl) ?_
      refine TrC.done ?_
      exact ⟨i + 1, ⟨hlt, fun j hj hji => by
        by_cases he : j = i
        · subst he; rw [hcs]; exact h16
        · exact hpre j hj (by omega)⟩, by show l.length - (i + 1) < l.length - i; omega, Sat.wk [] (.cons (.t (.refl _)) (.cons (.t (.refl _)) (.cons (.t (.refl _)) (.cons (.t (conv_i (by simp))) .nil)))) .nil rfl rfl⟩
  · have hge : ¬ i < l.length := by simpa using h9
    have hfi : l.findIdx? p = none := findIdx_no fun j hj => hpre j hj (by omega)
    refine AT.exit (Or.inl ⟨rfl, ?_⟩)
    refine AT.seq ?_
    refine AT.region ?_
    refine TrC.take rfl (step_assign rfl rfl rfl) ?_
    refine TrC.done ?_
    refine AT.ret ?_
    exact Ret.one rfl (ResR.tmp rfl (conv_i (by rw [hfi])))
theorem C49 (l : List T) (a b : Nat) (hab : a < b) (hb : b ≤ l.length) : HasG Try.prog 49 [] [.h 100, .t (.i a), .t (.i b)] [(100, .row 25 3 l)] (.h 300) [(300, .row 25 3 (l.take a ++ l.drop b))] := by
  refine HasG.intro 33 Try.func49 (by kernel_rfl) rfl rfl rfl fun w0 ok0 keep av => ?_
  refine AT.openRow 0 100 101 25 3 rfl rfl (by omega) rfl fun cap hc1 hc2 => ?_
  refine AT.seq ?_
  refine AT.region ?_
  refine TrC.take rfl (step_assignN (sz := 3) rfl rfl) ?_
  refine TrC.done ?_
  refine AT.seq ?_
  refine AT.region ?_
  refine TrC.take rfl (step_move rfl rfl rfl) ?_
  refine TrC.take rfl (step_move rfl rfl rfl) ?_
  refine TrC.take rfl (step_move rfl rfl rfl) ?_
  refine TrC.take rfl (step_move rfl rfl rfl) ?_
  refine TrC.take rfl (step_lenS rfl rfl sl27 rfl) ?_
  refine TrC.take rfl (step_sliceS a b l.length rfl rfl (.some rfl (by first | omega | (simp; done) | (simp; omega))) (.some rfl (by first | omega | (simp; done) | (simp; omega))) (.some rfl (by first | omega | (simp; done) | (simp; omega))) (by first | exact fun _ => rfl | exact fun h => nomatch h) sl27 (by omega) (by omega) (by omega) rfl) ?_
  refine TrC.done ?_
  refine AT.seq ?_
  refine AT.seq ?_
  refine AT.region ?_
  refine TrC.take rfl (step_move rfl rfl rfl) ?_
  refine TrC.take rfl (step_move rfl rfl rfl) ?_
  refine TrC.take rfl (step_bin rfl rfl rfl rfl rfl) ?_
  refine TrC.done ?_
  refine AT.cond rfl (fun h => ?_) (fun h => ?_)
  · exfalso; simp at h; omega
  · refine AT.skip ?_
    refine AT.seq ?_
    refine AT.region ?_
    refine TrC.take rfl (step_move rfl rfl rfl) ?_
    refine TrC.take rfl (step_lenS rfl rfl sl27 rfl) ?_
    refine TrC.take rfl (step_assign rfl rfl rfl) ?_
    refine TrC.done ?_
    refine AT.seq ?_
    refine AT.regionD mixed rfl ?_
    refine TrC.take rfl (step_move rfl rfl rfl) ?_
    refine TrC.take rfl (step_move rfl rfl rfl) ?_
    refine TrC.take rfl (step_sliceS 0 a cap rfl rfl (.none _) (.some rfl (by first | omega | (simp; done) | (simp; omega))) (.none _) (by first | exact fun _ => rfl | exact fun h => nomatch h) sl27 (by omega) (by omega) (by omega) rfl) ?_
    refine TrC.take rfl (step_move rfl rfl rfl) ?_
    refine TrC.take rfl (step_move rfl rfl rfl) ?_
    refine TrC.take rfl (step_sliceS b l.length cap rfl rfl (.some rfl (by first | omega | (simp; done) | (simp; omega))) (.none _) (.none _) (by first | exact fun _ => rfl | exact fun h => nomatch h) sl27 (by omega) (by omega) (by omega) rfl) ?_
    refine TrC.take rfl (step_appendS (len := l.length - b) rfl rfl rfl (.s rfl (by omega) (by omega)) (by omega) (by omega) sl27 sl27 rfl) ?_
    refine TrC.take rfl (step_assign rfl rfl rfl) ?_
    refine TrC.doneD rfl ?_
    refine AT.seq ?_
    refine AT.region ?_
    refine TrC.take rfl (step_move rfl rfl rfl) ?_
    refine TrC.take rfl (step_move rfl rfl rfl) ?_
    refine TrC.take rfl (step_lenS rfl rfl sl27 rfl) ?_
    refine TrC.take rfl (step_move rfl rfl rfl) ?_
    refine TrC.take rfl (step_sliceS (a - 0 + (l.length - b)) l.length (cap - 0) rfl rfl (.some rfl (by first | omega | (simp; done) | (simp; omega))) (.some rfl (by first | omega | (simp; done) | (simp; omega))) (.none _) (by first | exact fun _ => rfl | exact fun h => nomatch h) sl27 (by omega) (by omega) (by omega) rfl) ?_
    refine TrC.take rfl (step_clearS rfl rfl rfl sl27 ze25 rfl rfl rfl rfl) ?_
    refine TrC.done ?_
    refine AT.seq ?_
    refine AT.region ?_
    refine TrC.take rfl (step_move rfl rfl rfl) ?_
    refine TrC.take rfl (step_assign rfl rfl rfl) ?_
    refine TrC.done ?_
    have hlen : (Abs.put l (0 + 0 + (a - 0)) ((l.drop (0 + b)).take (l.length - b))).length = l.length := put_len (by simp; omega)
    refine AT.closeRow 6 200 rfl rfl (by omega) (by rw [List.length_take, hlen]; omega) rfl ?_
    refine AT.ret ?_
    exact RetG.one [(300, 200)] rfl (.tmp rfl) (.h rfl) (.cons rfl (.row (delete_list (by omega) hb)) .nil) rfl rfl
theorem C51 (l : List T) (k : Nat) (x : T) (hk : k ≤ l.length) (hbig : (l.length + 1) * 16 ≤ 140737488355328) : HasG Try.prog 51 [] [.h 100, .t (.i k), .h 102] [(100, .row 32 2 l), (102, .row 32 2 [x])] (.h 300) [(300, .row 32 2 (l.take k ++ x :: l.drop k))] := by
  refine HasG.intro 95 Try.func51 (by kernel_rfl) rfl rfl rfl fun w0 ok0 keep av => ?_
  refine AT.seq ?_
  refine AT.region ?_
  refine TrC.take rfl (step_assignN (sz := 2) rfl rfl) ?_
  refine TrC.done ?_
  refine AT.seq ?_
  refine AT.region ?_
  refine TrC.take rfl (step_move rfl rfl rfl) ?_
  refine TrC.take rfl (step_move rfl rfl rfl) ?_
  refine TrC.take rfl (step_sliceHJ k l.length rfl rfl rfl (.some rfl (by omega)) (.none _) rfl sl28 (by omega) (by omega) rfl) ?_
  refine TrC.done ?_
  refine AT.seq ?_
  refine AT.region ?_
  refine TrC.take rfl (step_move rfl rfl rfl) ?_
  refine TrC.take rfl (step_lenH rfl rfl rfl sl28 rfl) ?_
  refine TrC.take rfl (step_assign rfl rfl rfl) ?_
  refine TrC.done ?_
  refine AT.seq ?_
  refine AT.seq ?_
  refine AT.region ?_
  refine TrC.take rfl (step_move rfl rfl rfl) ?_
  refine TrC.take rfl (step_bin rfl rfl rfl rfl rfl) ?_
  refine TrC.done ?_
  refine AT.cond rfl (fun h => ?_) (fun h => ?_)
  · exfalso; simp at h
  · refine AT.skip ?_
    refine AT.seq ?_
    refine AT.region ?_
    refine TrC.take rfl (step_move rfl rfl rfl) ?_
    refine TrC.take rfl (step_lenH rfl rfl rfl sl28 rfl) ?_
    refine TrC.take rfl (step_assign rfl rfl rfl) ?_
    refine TrC.done ?_
    refine AT.seq ?_
    refine AT.seq ?_
    refine AT.region ?_
    refine TrC.take rfl (step_move rfl rfl rfl) ?_
    refine TrC.take rfl (step_move rfl rfl rfl) ?_
    refine TrC.take rfl (step_bin rfl rfl rfl rfl rfl) ?_
    refine TrC.done ?_
    refine AT.cond rfl (fun h22 => ?_) (fun h22 => ?_)
    · have hkl : k = l.length := Int.ofNat_inj.1 (by simpa using h22)
      refine AT.seq ?_
      refine AT.wk [] (sl := [(0, .h 100), (2, .t (.slice 2 [x]))]) (ml := [(100, .row 32 2 l)]) (.cons (.h rfl) (.cons (.fr rfl rfl) .nil)) (.cons rfl (.row rfl) .nil) rfl rfl ?_
      refine AT.region ?_
      refine TrC.take rfl (step_move rfl rfl rfl) ?_
      refine TrC.take rfl (step_move rfl rfl rfl) ?_
      refine TrC.take rfl (step_append rfl rfl rfl rfl rfl (.refl _) sl28 ze32 rfl rfl rfl (by simp; omega) rfl rfl) ?_
      refine TrC.take rfl (step_assign rfl rfl rfl) ?_
      refine TrC.done ?_
      refine AT.ret ?_
      exact RetG.one [(300, 25)] rfl (.tmp rfl) (.h rfl) (.cons rfl (.row (by subst hkl; simp)) .nil) rfl rfl
    · have hkl : k < l.length := by
        have : ¬ (k : Int) = l.length := by simpa using h22
        omega
      refine AT.skip ?_
      refine AT.openRow 0 100 101 32 2 rfl rfl (by omega) rfl fun cap hc1 hc2 => ?_
      refine AT.seq ?_
      refine AT.seq ?_
      refine AT.region ?_
      refine TrC.take rfl (step_move rfl rfl rfl) ?_
      refine TrC.take rfl (step_move rfl rfl rfl) ?_
      refine TrC.take rfl (step_addI rfl rfl rfl (by omega) (by simp; omega) rfl) ?_
      refine TrC.take rfl (step_move rfl rfl rfl) ?_
      refine TrC.take rfl (step_capS rfl rfl sl28 rfl) ?_
      refine TrC.take rfl (step_bin rfl rfl rfl rfl rfl) ?_
      refine TrC.done ?_
      refine AT.cond rfl (fun h31 => ?_) (fun h31 => ?_)
      · have hcap : cap < l.length + 1 := by
          have : (cap : Int) < (l.length : Int) + 1 := by simpa using h31
          omega
        refine AT.seq ?_
        refine AT.region ?_
        refine TrC.take rfl (step_move rfl rfl rfl) ?_
        refine TrC.take rfl (step_move rfl rfl rfl) ?_
        refine TrC.take rfl (step_sliceS 0 k cap rfl rfl (.none _) (.some rfl (by first | omega | (simp; done) | (simp; omega))) (.none _) (by first | exact fun _ => rfl | exact fun h => nomatch h) sl28 (by omega) (by omega) (by omega) rfl) ?_
        refine TrC.take rfl (step_move rfl rfl rfl) ?_
        refine TrC.take rfl (step_move rfl rfl rfl) ?_
        refine TrC.take rfl (step_addI rfl rfl rfl (by omega) (by simp; omega) rfl) ?_
        refine TrC.take rfl (step_move rfl rfl rfl) ?_
        refine TrC.take rfl (step_subI rfl rfl rfl (by simp; omega) (by simp; omega) rfl) ?_
        refine TrC.take rfl (step_appendZ (cnt := l.length + 1 - k) (.agg [.i 0, .i 0]) rfl rfl rfl rfl (by omega) rfl (by simp; omega) (by omega) sl28 in3 ze32 rfl rfl rfl rfl rfl (by rw [show k - 0 + (l.length + 1 - k) = l.length + 1 from by omega]; exact hbig) rfl rfl) ?_
        refine TrC.take rfl (step_assign rfl rfl rfl) ?_
        refine TrC.done ?_
        have hl0 : (l.take (k - 0) ++ List.replicate (l.length + 1 - k) (T.agg [.i 0, .i 0])).length = l.length + 1 := by simp; omega
        have hl1 : (Abs.put (l.take (k - 0) ++ List.replicate (l.length + 1 - k) (T.agg [.i 0, .i 0])) (0 + k) ([x].take 1)).length = l.length + 1 := by rw [put_len, hl0]; rw [hl0]; simp; omega
        obtain ⟨L, hL⟩ : ∃ L, l.take (k - 0) ++ List.replicate (l.length + 1 - k) (T.agg [.i 0, .i 0]) = L := ⟨_, rfl⟩
        rw [hL] at hl0 hl1
        refine AT.openRow' 9 40 103 32 2 rfl rfl L (l.length + 1) hL hl0 (by omega) rfl fun cap2 hd1 hd2 => ?_
        refine AT.seq ?_
        refine AT.region ?_
        refine TrC.take rfl (step_move rfl rfl rfl) ?_
        refine TrC.take rfl (step_move rfl rfl rfl) ?_
        refine TrC.take rfl (step_sliceS k (l.length + 1) cap2 rfl rfl (.some rfl (by first | omega | (simp; done) | (simp; omega))) (.none _) (.none _) (by first | exact fun _ => rfl | exact fun h => nomatch h) sl28 (by omega) (by omega) (by omega) rfl) ?_
        refine TrC.take rfl (step_move rfl rfl rfl) ?_
        refine TrC.take rfl (step_copyS (m := 1) rfl rfl rfl (.h rfl (by simp)) (by simp; omega) (by omega) sl28 rfl) ?_
        refine TrC.done ?_
        refine AT.seq ?_
        refine AT.regionD mixed rfl ?_
        refine TrC.take rfl (step_move rfl rfl rfl) ?_
        refine TrC.take rfl (step_move rfl rfl rfl) ?_
        refine TrC.take rfl (step_move rfl rfl rfl) ?_
        refine TrC.take rfl (step_addI rfl rfl rfl (by omega) (by simp; omega) rfl) ?_
        refine TrC.take rfl (step_sliceS (k + 1) (l.length + 1) cap2 rfl rfl (.some rfl (by first | omega | (simp; done) | (simp; omega))) (.none _) (.none _) (by first | exact fun _ => rfl | exact fun h => nomatch h) sl28 (by omega) (by omega) (by omega) rfl) ?_
        refine TrC.take rfl (step_move rfl rfl rfl) ?_
        refine TrC.take rfl (step_move rfl rfl rfl) ?_
        refine TrC.take rfl (step_sliceS k l.length cap rfl rfl (.some rfl (by first | omega | (simp; done) | (simp; omega))) (.none _) (.none _) (by first | exact fun _ => rfl | exact fun h => nomatch h) sl28 (by omega) (by omega) (by omega) rfl) ?_
        refine TrC.take rfl (step_copyS (m := l.length - k) rfl rfl rfl (.s rfl (by omega) (by omega)) (by omega) (by rw [hl1]; omega) sl28 rfl) ?_
        refine TrC.doneD rfl ?_
        refine AT.seq ?_
        refine AT.region ?_
        refine TrC.take rfl (step_move rfl rfl rfl) ?_
        refine TrC.take rfl (step_assign rfl rfl rfl) ?_
        refine TrC.done ?_
        refine AT.closeRow 6 200 rfl rfl (by omega) (by rw [put_len] <;> rw [hl1] <;> simp <;> omega) rfl ?_
        refine AT.ret ?_
        exact RetG.one [(300, 200)] rfl (.tmp rfl) (.h rfl) (.cons rfl (.row (by subst hL; rw [← insert_list1 (ze := T.agg [.i 0, .i 0]) hkl]; congr 1; omega)) .nil) rfl rfl
      · have hcap : l.length + 1 ≤ cap := by
          have : ¬ (cap : Int) < (l.length : Int) + 1 := by simpa using h31
          omega
        refine AT.skip ?_
        refine AT.seq ?_
        refine AT.region ?_
        refine TrC.take rfl (step_move rfl rfl rfl) ?_
        refine TrC.take rfl (step_move rfl rfl rfl) ?_
        refine TrC.take rfl (step_move rfl rfl rfl) ?_
        refine TrC.take rfl (step_addI rfl rfl rfl (by omega) (by simp; omega) rfl) ?_
        refine TrC.take rfl (step_sliceS 0 (l.length + 1) cap rfl rfl (.none _) (.some rfl (by first | omega | (simp; done) | (simp; omega))) (.none _) (by first | exact fun _ => rfl | exact fun h => nomatch h) sl28 (by omega) (by omega) (by omega) rfl) ?_
        refine TrC.take rfl (step_assign rfl rfl rfl) ?_
        refine TrC.done ?_
        refine AT.seq ?_
        refine AT.seq ?_
        refine AT.region ?_
        refine TrC.take rfl (step_move rfl rfl rfl) ?_
        refine TrC.take rfl (step_move rfl rfl rfl) ?_
        refine TrC.take rfl (step_move rfl rfl rfl) ?_
        refine TrC.take rfl (step_move rfl rfl rfl) ?_
        refine TrC.take rfl (step_addI rfl rfl rfl (by omega) (by simp; omega) rfl) ?_
        refine TrC.take rfl (step_sliceS (k + 1) (l.length + 1 - 0) (cap - 0) rfl rfl (.some rfl (by first | omega | (simp; done) | (simp; omega))) (.none _) (.none _) (by first | exact fun _ => rfl | exact fun h => nomatch h) sl28 (by omega) (by omega) (by omega) rfl) ?_
        refine TrC.take rfl (step_overlaps (t := 28) (t' := 4) rfl Try.func58 (by kernel_rfl) (by kernel_rfl) (by kernel_rfl) (by kernel_rfl) rfl rfl (by simp) rfl rfl rfl (by omega) sl28 rfl rfl) ?_
        refine TrC.take rfl (step_not rfl rfl rfl) ?_
        refine TrC.done ?_
        refine AT.condT rfl ?_
        refine AT.seq ?_
        refine AT.regionD mixed rfl ?_
        refine TrC.take rfl (step_move rfl rfl rfl) ?_
        refine TrC.take rfl (step_move rfl rfl rfl) ?_
        refine TrC.take rfl (step_move rfl rfl rfl) ?_
        refine TrC.take rfl (step_addI rfl rfl rfl (by omega) (by simp; omega) rfl) ?_
        refine TrC.take rfl (step_sliceS (k + 1) (l.length + 1 - 0) (cap - 0) rfl rfl (.some rfl (by first | omega | (simp; done) | (simp; omega))) (.none _) (.none _) (by first | exact fun _ => rfl | exact fun h => nomatch h) sl28 (by omega) (by omega) (by omega) rfl) ?_
        refine TrC.take rfl (step_move rfl rfl rfl) ?_
        refine TrC.take rfl (step_move rfl rfl rfl) ?_
        refine TrC.take rfl (step_sliceS k (l.length + 1 - 0) (cap - 0) rfl rfl (.some rfl (by first | omega | (simp; done) | (simp; omega))) (.none _) (.none _) (by first | exact fun _ => rfl | exact fun h => nomatch h) sl28 (by omega) (by omega) (by omega) rfl) ?_
        refine TrC.take rfl (step_copyS (m := l.length - k) rfl rfl rfl (.s rfl (by omega) (by omega)) (by omega) (by omega) sl28 rfl) ?_
        refine TrC.doneD rfl ?_
        have hl1 : (Abs.put l (0 + 0 + (k + 1)) ((l.drop (0 + 0 + k)).take (l.length - k))).length = l.length + 1 := by simp [Abs.put]; omega
        refine AT.seq ?_
        refine AT.region ?_
        refine TrC.take rfl (step_move rfl rfl rfl) ?_
        refine TrC.take rfl (step_move rfl rfl rfl) ?_
        refine TrC.take rfl (step_sliceS k (l.length + 1 - 0) (cap - 0) rfl rfl (.some rfl (by first | omega | (simp; done) | (simp; omega))) (.none _) (.none _) (by first | exact fun _ => rfl | exact fun h => nomatch h) sl28 (by omega) (by omega) (by omega) rfl) ?_
        refine TrC.take rfl (step_move rfl rfl rfl) ?_
        refine TrC.take rfl (step_copyS (m := 1) rfl rfl rfl (.h rfl (by simp)) (by simp; omega) (by rw [hl1]; omega) sl28 rfl) ?_
        refine TrC.done ?_
        refine AT.seq ?_
        refine AT.region ?_
        refine TrC.take rfl (step_move rfl rfl rfl) ?_
        refine TrC.take rfl (step_assign rfl rfl rfl) ?_
        refine TrC.done ?_
        refine AT.closeRow 6 200 rfl rfl (by omega) (by rw [put_len] <;> rw [hl1] <;> simp <;> omega) rfl ?_
        refine AT.ret ?_
        exact RetG.one [(300, 200)] rfl (.tmp rfl) (.h rfl) (.cons rfl (.row (insert_list2 hkl)) .nil) rfl rfl
theorem C53 (l : List T) (g : FuncId) (caps : List T) (p : T → Bool) (hl : l.length ≤ 9223372036854775806) (he : ∀ x ∈ l, ∃ cs, x = .agg cs ∧ cs.length = 2) (hp : ∀ x ∈ l, Has Try.prog g ([x] ++ caps) (.b (p x))) :
    HasG Try.prog 53 [] [.h 100, .t (.clo g caps)] [(100, .row 32 2 l)] (.h 300) [(300, .row 32 2 (l.filter fun x => !p x))] := by
  refine HasG.intro 42 Try.func53 (by kernel_rfl) rfl rfl rfl fun w0 ok0 keep av => ?_
  refine AT.seq ?_
  refine AT.region ?_
  refine TrC.take rfl (step_assignN (sz := 2) rfl rfl) ?_
  refine TrC.done ?_
  refine AT.seq ?_
  refine AT.region ?_
  refine TrC.take rfl (step_move rfl rfl rfl) ?_
  refine TrC.take rfl (step_move rfl rfl rfl) ?_
  refine TrC.take rfl (step_callB rfl rfl (C60 l g caps p hl he hp) (ConvL.refl _) rfl) ?_
  refine TrC.take rfl (step_assign rfl rfl rfl) ?_
  refine TrC.done ?_
  refine AT.seq ?_
  refine AT.seq ?_
  refine AT.region ?_
  refine TrC.take rfl (step_move rfl rfl rfl) ?_
  refine TrC.take rfl (step_bin rfl rfl rfl rfl rfl) ?_
  refine TrC.done ?_
  refine AT.cond rfl (fun h12 => ?_) (fun h12 => ?_)
  · have hnone : l.findIdx? p = none := by
      cases hf : l.findIdx? p with
      | none => rfl
      | some i => exfalso; rw [hf] at h12; simp at h12 <;> omega
    refine AT.seq ?_
    refine AT.region ?_
    refine TrC.take rfl (step_move rfl rfl rfl) ?_
    refine TrC.take rfl (step_assign rfl rfl rfl) ?_
    refine TrC.done ?_
    refine AT.ret ?_
    exact RetG.one [(300, 100)] rfl (.tmp rfl) (.h rfl) (.cons rfl (.row (filter_of_none hnone).symm) .nil) rfl rfl
  · obtain ⟨k0, hk0⟩ : ∃ k0, l.findIdx? p = some k0 := by
      cases hf : l.findIdx? p with
      | none => rw [hf] at h12; simp at h12
      | some i => exact ⟨i, rfl⟩
    obtain ⟨hkl, hkp, hkb⟩ := List.findIdx?_eq_some_iff_getElem.1 hk0
    have hpre : l.take k0 = (l.take (k0 + 1)).filter (fun x => !p x) := del_start hk0
    refine AT.skip ?_
    refine AT.openRow 0 100 101 32 2 rfl rfl (by omega) rfl fun cap hc1 hc2 => ?_
    refine AT.spell 5 rfl (show T.v (.int .i64 (match l.findIdx? p with | some i => (i : Int) | none => -1)) = .v (.int .i64 k0) by rw [hk0]) ?_
    refine AT.seq ?_
    refine AT.seq ?_
    refine AT.region ?_
    refine TrC.take rfl (step_move rfl rfl rfl) ?_
    refine TrC.take rfl (step_addI rfl rfl rfl (by omega) (by omega) rfl) ?_
    refine TrC.take rfl (step_assign rfl rfl rfl) ?_
    refine TrC.done ?_
    refine AT.block ?_
    refine AT.loopP (fun ix : Nat × Nat × List T => DelInv p l ix.1 ix.2.1 ix.2.2) (fun (i, j, L) => mkS [(0, .s 101 2 0 l.length cap), (1, .t (.clo g caps)), (5, .t (.i i)), (6, .t (.i j))] [(101, .buf 32 2 cap L)]) (fun ix => l.length - ix.2.1) (k0, k0 + 1, l) ⟨Nat.lt_succ_self _, hkl, rfl, hpre, rfl⟩
      (fun a w hs => Sat.wk [] (.cons (.s rfl) (.cons (.t (.refl _)) (.cons (.t (.refl _)) (.cons (.t (conv_i (by simp))) .nil)))) (.cons rfl (.buf rfl) .nil) rfl rfl a w hs) (fun ix hix => ?_)
    obtain ⟨i, j, L⟩ := ix
    obtain ⟨hij, hjl, hL, hA, hD⟩ := hix
    simp only at hij hjl hL hA hD
    refine AT.seq ?_
    refine AT.seq ?_
    refine AT.region ?_
    refine TrC.take rfl (step_move rfl rfl rfl) ?_
    refine TrC.take rfl (step_move rfl rfl rfl) ?_
    refine TrC.take rfl (step_lenS rfl rfl sl28 rfl) ?_
    refine TrC.take rfl (step_bin rfl rfl rfl rfl rfl) ?_
    refine TrC.done ?_
    refine AT.cond rfl (fun h19 => ?_) (fun h19 => ?_)
    · have hlt : j < l.length := by simpa using h19
      obtain ⟨cs, hcs, hcl⟩ := he l[j] (List.getElem_mem hlt)
      obtain ⟨a0, a1, rfl⟩ : ∃ a0 a1, cs = [a0, a1] := by
        match cs, hcl with | [xa0, xa1], _ => exact ⟨xa0, xa1, rfl⟩
      have hget : L[j]? = some (.agg [a0, a1]) := by rw [← hcs]; exact del_get hD hlt
      have hpi := hp l[j] (List.getElem_mem hlt)
      rw [hcs] at hpi
      refine AT.skip ?_
      refine AT.seq ?_
      refine AT.block ?_
      refine AT.seq ?_
      refine AT.region ?_
      refine TrC.take rfl (step_move rfl rfl rfl) ?_
      refine TrC.take rfl (step_move rfl rfl rfl) ?_
      refine TrC.take rfl (step_indexAddrS j rfl rfl rfl rfl sl28 hlt rfl) ?_
      refine TrC.take rfl (step_loadBN (k := j) rfl rfl rfl (by rw [Nat.zero_add]) ty32 hget rfl) ?_
      refine TrC.take rfl (step_alloc rfl rfl ze32 rfl rfl rfl) ?_
      refine TrC.take rfl (step_storeP rfl rfl rfl rfl rfl (.inl rfl) ty32 rfl rfl rfl) ?_
      refine TrC.done ?_
      refine AT.seq ?_
      refine AT.region ?_
      refine TrC.take rfl (step_move rfl rfl rfl) ?_
      refine TrC.take rfl (step_loadPN rfl rfl rfl ty32 rfl rfl rfl) ?_
      refine TrC.take rfl (step_callC rfl rfl (.refl _) rfl hpi (ConvL.refl _) rfl) ?_
      refine TrC.take rfl (step_not rfl rfl rfl) ?_
      refine TrC.done ?_
      refine AT.cond rfl (fun h29 => ?_) (fun h29 => ?_)
      · have hpf : p l[j] = false := by rw [hcs]; simpa using h29
        refine AT.seq ?_
        refine AT.region ?_
        refine TrC.take rfl (step_move rfl rfl rfl) ?_
        refine TrC.take rfl (step_move rfl rfl rfl) ?_
        refine TrC.take rfl (step_loadPN rfl rfl rfl ty32 rfl rfl rfl) ?_
        refine TrC.take rfl (step_indexAddrS i rfl rfl rfl rfl sl28 (by omega) rfl) ?_
        refine TrC.take rfl (step_storeBN (k := i) rfl rfl rfl (by rw [Nat.zero_add]) (by omega) rfl ty32 rfl rfl) ?_
        refine TrC.done ?_
        refine AT.region ?_
        refine TrC.take rfl (step_move rfl rfl rfl) ?_
        refine TrC.take rfl (step_addI rfl rfl rfl (by omega) (by omega) rfl) ?_
        refine TrC.take rfl (step_assign rfl rfl rfl) ?_
        refine TrC.done ?_
        refine AT.region ?_
        refine TrC.take rfl (step_move rfl rfl rfl) ?_
        refine TrC.take rfl (step_addI rfl rfl rfl (by omega) (by omega) rfl) ?_
        refine TrC.take rfl (step_assign rfl rfl rfl) ?_
        refine TrC.done ?_
        exact ⟨(i + 1, j + 1, L.set i (.agg [a0, a1])), by rw [← hcs]; exact del_keep ⟨hij, hjl, hL, hA, hD⟩ hlt hpf, by show l.length - (j + 1) < l.length - j; omega,
          Sat.wk [] (.cons (.s rfl) (.cons (.t (.refl _)) (.cons (.t (conv_i (by simp))) (.cons (.t (conv_i (by simp))) .nil)))) (.cons rfl (.buf rfl) .nil) rfl rfl⟩
      · have hpt : p l[j] = true := by rw [hcs]; simpa using h29
        refine AT.skip ?_
        refine AT.region ?_
        refine TrC.take rfl (step_move rfl rfl rfl) ?_
        refine TrC.take rfl (step_addI rfl rfl rfl (by omega) (by omega) rfl) ?_
        refine TrC.take rfl (step_assign rfl rfl rfl) ?_
        refine TrC.done ?_
        exact ⟨(i, j + 1, L), del_drop ⟨hij, hjl, hL, hA, hD⟩ hlt hpt, by show l.length - (j + 1) < l.length - j; omega,
          Sat.wk [] (.cons (.s rfl) (.cons (.t (.refl _)) (.cons (.t (.refl _)) (.cons (.t (conv_i (by simp))) .nil)))) (.cons rfl (.buf rfl) .nil) rfl rfl⟩
    · have hge : ¬ j < l.length := by simpa using h19
      refine AT.exit (Or.inl ⟨rfl, ?_⟩)
      refine AT.seq ?_
      refine AT.region ?_
      refine TrC.take rfl (step_move rfl rfl rfl) ?_
      refine TrC.take rfl (step_move rfl rfl rfl) ?_
      refine TrC.take rfl (step_sliceS i l.length cap rfl rfl (.some rfl (by first | omega | (simp; done) | (simp; omega))) (.none _) (.none _) (by first | exact fun _ => rfl | exact fun h => nomatch h) sl28 (by omega) (by omega) (by omega) rfl) ?_
      refine TrC.take rfl (step_clearS rfl rfl rfl sl28 ze32 rfl rfl rfl rfl) ?_
      refine TrC.done ?_
      refine AT.seq ?_
      refine AT.region ?_
      refine TrC.take rfl (step_move rfl rfl rfl) ?_
      refine TrC.take rfl (step_move rfl rfl rfl) ?_
      refine TrC.take rfl (step_sliceS 0 i cap rfl rfl (.none _) (.some rfl (by first | omega | (simp; done) | (simp; omega))) (.none _) (by first | exact fun _ => rfl | exact fun h => nomatch h) sl28 (by omega) (by omega) (by omega) rfl) ?_
      refine TrC.take rfl (step_assign rfl rfl rfl) ?_
      refine TrC.done ?_
      refine AT.closeRow 4 200 rfl rfl (by omega) (by simp; omega) rfl ?_
      refine AT.ret ?_
      exact RetG.one [(300, 200)] rfl (.tmp rfl) (.h rfl) (.cons rfl (.row (del_end ⟨hij, hjl, hL, hA, hD⟩ hge)) .nil) rfl rfl
end Go.Proofs.Ytnemmdbafngppaa.Net

/- What the functions of the chapter on nets compute, in plain Lean. No condition. -/
set_option linter.unusedVariables false
namespace Go.Proofs.Ytnemmdbafngppaa.Net
open Go.Proofs.Ytnemmdbafngppaa.Abs

structure Pk where
  id : Int
  fr : Int
  to : Int
  deriving DecidableEq
structure Net where
  fl : List Pk
  cuts : List (Int × Int)
  next : Int
  deriving DecidableEq
def encP (p : Pk) : T := .agg [.i p.id, .i p.fr, .i p.to]
def encC (c : Int × Int) : T := .agg [.i c.1, .i c.2]
def encN (n : Net) : T := .agg [.slice 3 (n.fl.map encP), .slice 2 (n.cuts.map encC), .i n.next]

def part (a : Int) : Bool := decide (a ≥ 0) && decide (a ≤ 1000000000)
def parts (a b : Int) : Bool := part a && part b && decide (a ≠ b)
def less (a b : Int × Int) : Bool := decide (a.1 < b.1) || (decide (a.1 = b.1) && decide (a.2 < b.2))
def cmpI (a b : Int) : Int := if a < b then -1 else if a > b then 1 else 0
def order (x y : Int × Int) : Int := if cmpI x.1 y.1 ≠ 0 then cmpI x.1 y.1 else cmpI x.2 y.2
def pr (a b : Int) : Int × Int := (min a b, max a b)
def cutIx (n : Net) (a b : Int) : Option Nat := n.cuts.findIdx? (fun c => decide (c = pr a b))
def ixI : Option Nat → Int
  | some i => i
  | none => -1
def reach (n : Net) (a b : Int) : Bool := (cutIx n a b).isNone
def findIx (n : Net) (id : Int) : Option Nat := n.fl.findIdx? (fun p => decide (p.id = id))
/-- The result of Send. -/
structure Sent where
  n : Net
  id : Int
  e : Int
  deriving DecidableEq
structure Taken where
  n : Net
  p : Pk
  e : Int
  deriving DecidableEq
def encSent (s : Sent) : T := .agg [.slice 3 (s.n.fl.map encP), .slice 2 (s.n.cuts.map encC), .i s.n.next, .i s.id, .i s.e]
def encTaken (s : Taken) : T := .agg [.slice 3 (s.n.fl.map encP), .slice 2 (s.n.cuts.map encC), .i s.n.next, .i s.p.id, .i s.p.fr, .i s.p.to, .i s.e]
def p0 : Pk := ⟨0, 0, 0⟩
def send (n : Net) (a b : Int) : Sent :=
  if parts a b then
    if 200 ≤ n.fl.length ∨ 1000000000 ≤ n.next then ⟨n, 0, 2⟩
    else ⟨⟨n.fl ++ [⟨n.next, a, b⟩], n.cuts, n.next + 1⟩, n.next, 0⟩
  else ⟨n, 0, 1⟩
def without (n : Net) (i : Nat) : Net := ⟨n.fl.take i ++ n.fl.drop (i + 1), n.cuts, n.next⟩
def take (n : Net) (id : Int) : Taken :=
  match findIx n id with
  | none => ⟨n, p0, 90⟩
  | some i => if reach n (n.fl.getD i p0).fr (n.fl.getD i p0).to then ⟨without n i, n.fl.getD i p0, 0⟩ else ⟨n, p0, 320⟩
def lose (n : Net) (id : Int) : Taken :=
  match findIx n id with
  | none => ⟨n, p0, 90⟩
  | some i => ⟨without n i, p0, 0⟩
def double (n : Net) (id : Int) : Taken :=
  match findIx n id with
  | none => ⟨n, p0, 90⟩
  | some i => let s := send n (n.fl.getD i p0).fr (n.fl.getD i p0).to; ⟨s.n, p0, s.e⟩
def insAt (l : List (Int × Int)) (x : Int × Int) : Nat := (l.takeWhile (fun c => less c x)).length
def sever (n : Net) (a b : Int) : Taken :=
  if parts a b then
    if reach n a b then
      if 200 ≤ n.cuts.length then ⟨n, p0, 2⟩
      else ⟨⟨n.fl, n.cuts.take (insAt n.cuts (pr a b)) ++ pr a b :: n.cuts.drop (insAt n.cuts (pr a b)), n.next⟩, p0, 0⟩
    else ⟨n, p0, 0⟩
  else ⟨n, p0, 1⟩
def heal (n : Net) (a b : Int) : Taken :=
  if parts a b then
    match cutIx n a b with
    | none => ⟨n, p0, 0⟩
    | some i => ⟨⟨n.fl, n.cuts.take i ++ n.cuts.drop (i + 1), n.next⟩, p0, 0⟩
  else ⟨n, p0, 1⟩
def okP (n : Net) (i : Nat) : Bool := decide (1 ≤ (n.fl.getD i p0).id) && decide ((n.fl.getD i p0).id < n.next) && parts (n.fl.getD i p0).fr (n.fl.getD i p0).to && (decide (i = 0) || decide ((n.fl.getD (i - 1) p0).id < (n.fl.getD i p0).id))
def okC (n : Net) (i : Nat) : Bool := parts (n.cuts.getD i (0, 0)).1 (n.cuts.getD i (0, 0)).2 && decide ((n.cuts.getD i (0, 0)).1 ≤ (n.cuts.getD i (0, 0)).2) && (decide (i = 0) || less (n.cuts.getD (i - 1) (0, 0)) (n.cuts.getD i (0, 0)))
def valid (n : Net) : Bool := decide (∀ i, i < n.fl.length → okP n i = true) && decide (∀ i, i < n.cuts.length → okC n i = true) && decide (n.fl.length ≤ 200) && decide (n.cuts.length ≤ 200) && decide (1 ≤ n.next) && decide (n.next ≤ 1000000000)
/-- A step that three numbers (of a byte each) describe. -/
def step (n : Net) (x : Int × Int × Int) : Net :=
  let a := x.2.1 % 5
  let b := x.2.2 % 5
  let k := x.1 % 8
  if k = 0 ∨ k = 1 ∨ k = 2 then (send n a b).n
  else if k = 3 then (take n (x.2.1 % 16)).n
  else if k = 4 then (lose n (x.2.1 % 16)).n
  else if k = 5 then (double n (x.2.1 % 16)).n
  else if k = 6 then (sever n a b).n
  else (heal n a b).n
def made (l : List (Int × Int × Int)) : Net := (l.take 20).foldl step ⟨[], [], 1⟩

/-! ### Finding -/
theorem reach_dec (o : Option Nat) : decide (ixI o < 0) = o.isNone := by
  cases o with
  | none => rfl
  | some i => exact decide_eq_false (by simp only [ixI]; omega)
theorem ix_found {α : Type} {p : α → Bool} {l : List α} {i : Nat} (h : i < l.length) (hp : p l[i] = true) (hb : ∀ j (h : j < l.length), j < i → p l[j] = false) : l.findIdx? p = some i := by
  rw [List.findIdx?_eq_some_iff_getElem]
  exact ⟨h, hp, fun j hj => by simp [hb j (by omega) hj]⟩
theorem ix_none {α : Type} {p : α → Bool} {l : List α} (hb : ∀ j (h : j < l.length), p l[j] = false) : l.findIdx? p = none := by
  rw [List.findIdx?_eq_none_iff]
  intro x hx
  obtain ⟨j, hj, rfl⟩ := List.getElem_of_mem hx
  simp [hb j hj]

theorem ix_neg {o : Option Nat} (h : ixI o < 0) : o = none := by
  cases o with
  | none => rfl
  | some i => simp only [ixI] at h; omega
theorem find_pos {n : Net} {id : Int} (h : 0 ≤ ixI (findIx n id)) : ∃ i, findIx n id = some i ∧ i < n.fl.length := by
  cases hf : findIx n id with
  | none => rw [hf] at h; simp [ixI] at h
  | some i => exact ⟨i, rfl, (List.findIdx?_eq_some_iff_getElem.1 hf).1⟩
theorem cut_pos {n : Net} {a b : Int} (h : 0 ≤ ixI (cutIx n a b)) : ∃ i, cutIx n a b = some i ∧ i < n.cuts.length := by
  cases hf : cutIx n a b with
  | none => rw [hf] at h; simp [ixI] at h
  | some i => exact ⟨i, rfl, (List.findIdx?_eq_some_iff_getElem.1 hf).1⟩

theorem valid_badP {n : Net} {i : Nat} (hi : i < n.fl.length) (h : okP n i = false) : valid n = false := by
  have : ¬ ∀ i, i < n.fl.length → okP n i = true := fun ha => by rw [ha i hi] at h; cases h
  simp [valid, this]
theorem valid_badC {n : Net} {i : Nat} (hi : i < n.cuts.length) (h : okC n i = false) : valid n = false := by
  have : ¬ ∀ i, i < n.cuts.length → okC n i = true := fun ha => by rw [ha i hi] at h; cases h
  simp [valid, this]
theorem getP {n : Net} {i : Nat} (hi : i < n.fl.length) : n.fl.getD i p0 = n.fl[i] := by simp [List.getD_eq_getElem?_getD, hi]
theorem getC {n : Net} {i : Nat} (hi : i < n.cuts.length) : n.cuts.getD i (0, 0) = n.cuts[i] := by simp [List.getD_eq_getElem?_getD, hi]
theorem pk_eq {x y : Pk} (h : x.id = y.id ∧ x.fr = y.fr ∧ x.to = y.to) : x = y := by
  cases x; cases y; simp_all
theorem tk_eq (x y : Taken) : decide (x = y) = (decide (x.n = y.n) && (decide (x.p.id = y.p.id ∧ x.p.fr = y.p.fr ∧ x.p.to = y.p.to) && decide (x.e = y.e))) := by
  rw [Bool.eq_iff_iff]
  simp only [decide_eq_true_eq, Bool.and_eq_true]
  constructor
  · intro h; subst h; simp
  · rintro ⟨h1, h2, h3⟩
    have := pk_eq h2
    cases x; cases y; simp_all
/-! ### Where a pair goes -/
theorem tw_all {α : Type} {p : α → Bool} : ∀ {l : List α}, (∀ x ∈ l, p x = true) → l.takeWhile p = l
  | [], _ => rfl
  | x :: r, h => by rw [List.takeWhile_cons_of_pos (h x (by simp)), tw_all fun y hy => h y (by simp [hy])]
theorem insAt_end {l : List (Int × Int)} {x : Int × Int} (h : ∀ j (hj : j < l.length), less l[j] x = true) : insAt l x = l.length := by
  unfold insAt
  congr 1
  refine tw_all fun y hy => ?_
  obtain ⟨j, hj, rfl⟩ := List.getElem_of_mem hy
  exact h j hj
theorem insAt_stop {l : List (Int × Int)} {x : Int × Int} {i : Nat} (hi : i < l.length) (h : ∀ j (hj : j < l.length), j < i → less l[j] x = true) (hn : less l[i] x = false) : insAt l x = i := by
  have e : l = l.take i ++ l[i] :: l.drop (i + 1) := by rw [List.getElem_cons_drop, List.take_append_drop]
  unfold insAt
  have h1 : (l.take i).takeWhile (fun c => less c x) = l.take i := by
    refine tw_all fun y hy => ?_
    obtain ⟨j, hj, rfl⟩ := List.getElem_of_mem hy
    simp only [List.length_take] at hj
    rw [List.getElem_take]
    exact h j (by omega) (by omega)
  have h2 : l.takeWhile (fun c => less c x) = l.take i := by
    conv => lhs; rw [e]
    rw [List.takeWhile_append_of_pos, List.takeWhile_cons_of_neg]
    · simp
    · simp [hn]
    · intro y hy
      obtain ⟨j, hj, rfl⟩ := List.getElem_of_mem hy
      simp only [List.length_take] at hj
      rw [List.getElem_take]
      exact h j (by omega) (by omega)
  rw [h2]; simp; omega

/-! ### Searching in what is sorted -/
theorem bs_k {α : Type} (l : List α) (f : α → Int) (hm : ∀ i j (hi : i < l.length) (hj : j < l.length), i < j → 0 ≤ f l[i] → 0 < f l[j]) :
    ∃ k, k ≤ l.length ∧ (∀ i (h : i < l.length), f l[i] < 0 ↔ i < k) ∧ l.findIdx? (fun x => decide (f x = 0)) = (match l[k]? with | some y => if f y = 0 then some k else none | none => none) := by
  refine ⟨l.findIdx (fun x => decide (0 ≤ f x)), List.findIdx_le_length, ?_, ?_⟩
  · intro i h
    constructor
    · intro hn
      rcases Nat.lt_or_ge i (l.findIdx (fun x => decide (0 ≤ f x))) with hlt | hge
      · exact hlt
      · exfalso
        have hk : l.findIdx (fun x => decide (0 ≤ f x)) < l.length := by omega
        have hp := List.findIdx_getElem (w := hk)
        simp only [decide_eq_true_eq] at hp
        rcases Nat.lt_or_eq_of_le hge with h2 | h2
        · have := hm _ i hk h h2 hp; omega
        · simp only [h2] at hp; omega
    · intro hlt
      have := List.not_of_lt_findIdx hlt
      simpa using this
  · rcases Nat.lt_or_ge (l.findIdx (fun x => decide (0 ≤ f x))) l.length with hk | hk
    · rw [List.getElem?_eq_getElem hk]
      have hp := List.findIdx_getElem (w := hk)
      simp only [decide_eq_true_eq] at hp
      have hbefore : ∀ j (h : j < l.length), j < l.findIdx (fun x => decide (0 ≤ f x)) → f l[j] < 0 := fun j h hj => by simpa using List.not_of_lt_findIdx hj
      by_cases h0 : f l[l.findIdx (fun x => decide (0 ≤ f x))] = 0
      · simp only [if_pos h0]
        exact ix_found hk (by simpa using h0) (fun j h hj => by have := hbefore j h hj; simp; omega)
      · simp only [if_neg h0]
        refine ix_none fun j h => ?_
        rcases Nat.lt_trichotomy j (l.findIdx (fun x => decide (0 ≤ f x))) with h1 | h1 | h1
        · have := hbefore j h h1; simp; omega
        · simp only [h1]; simpa using h0
        · have := hm _ j hk h h1 hp; simp; omega
    · rw [List.getElem?_eq_none hk]
      refine ix_none fun j h => ?_
      have : f l[j] < 0 := by simpa using List.not_of_lt_findIdx (show j < l.findIdx (fun x => decide (0 ≤ f x)) by omega)
      simp; omega
theorem cmpI_zero (a b : Int) : cmpI a b = 0 ↔ a = b := by unfold cmpI; split <;> (try split) <;> omega
theorem cmpI_neg (a b : Int) : cmpI a b < 0 ↔ a < b := by unfold cmpI; split <;> (try split) <;> omega
theorem cmpI_pos (a b : Int) : 0 ≤ cmpI a b ↔ b ≤ a := by unfold cmpI; split <;> (try split) <;> omega
theorem order_zero (x y : Int × Int) : order x y = 0 ↔ x = y := by
  unfold order
  have h1 := cmpI_zero x.1 y.1
  have h2 := cmpI_zero x.2 y.2
  rw [Prod.ext_iff]
  split <;> simp_all
theorem order_neg (x y : Int × Int) : order x y < 0 ↔ less x y = true := by
  unfold order less
  have h1 := cmpI_zero x.1 y.1
  have h2 := cmpI_neg x.1 y.1
  have h3 := cmpI_neg x.2 y.2
  simp only [Bool.or_eq_true, Bool.and_eq_true, decide_eq_true_eq]
  split
  · rename_i h; rw [h2]; constructor
    · exact .inl
    · rintro (h | ⟨h, _⟩); exact h; exact absurd (h1.2 h) (by assumption)
  · rename_i h
    have h : cmpI x.1 y.1 = 0 := by simpa using h
    rw [h3]; have := h1.1 h; constructor
    · intro h'; exact .inr ⟨this, h'⟩
    · rintro (h' | ⟨_, h'⟩); omega; exact h'
def SortP (n : Net) : Prop := ∀ i j (hi : i < n.fl.length) (hj : j < n.fl.length), i < j → n.fl[i].id < n.fl[j].id
def SortC (n : Net) : Prop := ∀ i j (hi : i < n.cuts.length) (hj : j < n.cuts.length), i < j → less n.cuts[i] n.cuts[j] = true
theorem less_trans {x y z : Int × Int} (h1 : less x y = true) (h2 : less y z = true) : less x z = true := by
  simp only [less, Bool.or_eq_true, Bool.and_eq_true, decide_eq_true_eq] at *; omega
theorem less_irrefl {x : Int × Int} : less x x = false := by simp [less]
theorem less_total {x y : Int × Int} (h : x ≠ y) (hn : less x y = false) : less y x = true := by
  simp only [less, Bool.or_eq_true, Bool.and_eq_true, decide_eq_true_eq, Bool.or_eq_false_iff, Bool.and_eq_false_iff, decide_eq_false_iff_not, ne_eq, Prod.ext_iff] at *; omega
theorem find_k {n : Net} (h : SortP n) (id : Int) : ∃ k, k ≤ n.fl.length ∧ (∀ i (h : i < n.fl.length), cmpI n.fl[i].id id < 0 ↔ i < k) ∧ findIx n id = (match n.fl[k]? with | some y => if cmpI y.id id = 0 then some k else none | none => none) := by
  obtain ⟨k, h1, h2, h3⟩ := bs_k n.fl (fun p => cmpI p.id id) (fun i j hi hj hij h0 => by
    have h4 := h i j hi hj hij
    rw [cmpI_pos] at h0
    have h5 := cmpI_neg n.fl[j].id id
    have h6 := cmpI_zero n.fl[j].id id
    omega)
  refine ⟨k, h1, h2, ?_⟩
  have e : findIx n id = n.fl.findIdx? (fun p => decide (cmpI p.id id = 0)) := by
    unfold findIx
    congr 1; funext p
    rw [Bool.eq_iff_iff]; simp [cmpI_zero]
  rw [e, h3]; cases n.fl[k]? <;> rfl
theorem cut_k {n : Net} (h : SortC n) (a b : Int) : ∃ k, k ≤ n.cuts.length ∧ (∀ i (h : i < n.cuts.length), order n.cuts[i] (pr a b) < 0 ↔ i < k) ∧ cutIx n a b = (match n.cuts[k]? with | some y => if order y (pr a b) = 0 then some k else none | none => none) := by
  obtain ⟨k, h1, h2, h3⟩ := bs_k n.cuts (fun c => order c (pr a b)) (fun i j hi hj hij h0 => by
    have h4 := h i j hi hj hij
    have h5 := order_neg n.cuts[j] (pr a b)
    have h6 := order_zero n.cuts[j] (pr a b)
    have h7 := order_neg n.cuts[i] (pr a b)
    have h8 : ¬ less n.cuts[i] (pr a b) = true := fun h => by have := h7.2 h; omega
    rcases Int.lt_trichotomy (order n.cuts[j] (pr a b)) 0 with h9 | h9 | h9
    · exact absurd (less_trans h4 (h5.1 h9)) h8
    · rw [h6.1 h9] at h4; exact absurd h4 h8
    · exact h9)
  refine ⟨k, h1, h2, ?_⟩
  have e : cutIx n a b = n.cuts.findIdx? (fun c => decide (order c (pr a b) = 0)) := by
    unfold cutIx
    congr 1; funext p
    rw [Bool.eq_iff_iff]; simp [order_zero]
  rw [e, h3]; cases n.cuts[k]? <;> rfl

theorem send_err {n : Net} {a b : Int} (hp : parts a b = true) (h : (send n a b).e ≠ 0) : send n a b = ⟨n, 0, (send n a b).e⟩ := by
  unfold send at *
  rw [if_pos hp] at *
  split
  · rfl
  · rename_i hb; rw [if_neg hb] at h; exact absurd rfl h
theorem send_ok {n : Net} {a b : Int} (hp : parts a b = true) (h : (send n a b).e = 0) : (send n a b).id = n.next ∧ (send n a b).e = 0 := by
  refine ⟨?_, h⟩
  unfold send at *
  rw [if_pos hp] at *
  split
  · rename_i hb; rw [if_pos hb] at h; simp at h
  · rfl

theorem insAt_k {l : List (Int × Int)} {x : Int × Int} {k : Nat} (h1 : k ≤ l.length) (h2 : ∀ i (h : i < l.length), order l[i] x < 0 ↔ i < k) : insAt l x = k := by
  rcases Nat.lt_or_ge k l.length with h | h
  · refine insAt_stop h (fun j hj hjk => (order_neg _ _).1 ((h2 j hj).2 hjk)) ?_
    cases hb : less l[k] x with
    | false => rfl
    | true => have := (h2 k h).1 ((order_neg _ _).2 hb); omega
  · have : k = l.length := by omega
    subst this
    exact insAt_end fun j hj => (order_neg _ _).1 ((h2 j hj).2 hj)
theorem sever_no {n : Net} {a b : Int} {k : Nat} (h : cutIx n a b = (match n.cuts[k]? with | some y => if order y (pr a b) = 0 then some k else none | none => none)) (hb : (match n.cuts[k]? with | some y => decide (order y (pr a b) = 0) | none => false) = true) : ¬ reach n a b = true := by
  unfold reach
  rw [h]
  cases hg : n.cuts[k]? with
  | none => rw [hg] at hb; simp at hb
  | some y => rw [hg] at hb; simp at hb; simp [hb]
theorem sever_yes {n : Net} {a b : Int} {k : Nat} (h : cutIx n a b = (match n.cuts[k]? with | some y => if order y (pr a b) = 0 then some k else none | none => none)) (hb : (match n.cuts[k]? with | some y => decide (order y (pr a b) = 0) | none => false) = false) : reach n a b = true := by
  unfold reach
  rw [h]
  cases hg : n.cuts[k]? with
  | none => rfl
  | some y => rw [hg] at hb; simp at hb; simp [hb]

theorem encC_inj {c d : Int × Int} : encC c = encC d ↔ c = d := by
  constructor
  · intro h
    unfold encC at h
    simp only [T.agg.injEq, List.cons.injEq, T.v.injEq, Value.int.injEq, true_and, and_true] at h
    exact Prod.ext_iff.2 h
  · rintro rfl; rfl
def isC (x : Int × Int) : T → Bool
  | .agg [.v (.int .i64 c), .v (.int .i64 d)] => decide ((c, d) = x)
  | _ => false
theorem isC_enc (x c : Int × Int) : isC x (encC c) = decide (c = x) := rfl
theorem filter_enc (x : Int × Int) (l : List (Int × Int)) : (l.map encC).filter (fun y => !isC x y) = (l.filter (fun c => !decide (c = x))).map encC := by
  induction l with
  | nil => rfl
  | cons c r ih =>
    simp only [List.map_cons, List.filter_cons, isC_enc, ih]
    cases decide (c = x) <;> rfl
theorem heal_filter {n : Net} {a b : Int} (hp : parts a b = true) (hS : SortC n) : heal n a b = ⟨⟨n.fl, n.cuts.filter (fun c => !decide (c = pr a b)), n.next⟩, p0, 0⟩ := by
  unfold heal
  rw [if_pos hp]
  cases hf : cutIx n a b with
  | none =>
    have : n.cuts.filter (fun c => !decide (c = pr a b)) = n.cuts := by
      rw [List.filter_eq_self]
      intro c hc
      unfold cutIx at hf
      rw [List.findIdx?_eq_none_iff] at hf
      have := hf c hc
      simp only [this, Bool.not_false]
    simp only [this]
  | some i =>
    obtain ⟨h1, h2, h3⟩ := List.findIdx?_eq_some_iff_getElem.1 hf
    have h2 : n.cuts[i] = pr a b := by simpa using h2
    have e : n.cuts = n.cuts.take i ++ n.cuts[i] :: n.cuts.drop (i + 1) := by rw [List.getElem_cons_drop, List.take_append_drop]
    have e1 : (n.cuts.take i).filter (fun c => !decide (c = pr a b)) = n.cuts.take i := by
      rw [List.filter_eq_self]
      intro c hc
      obtain ⟨j, hj, rfl⟩ := List.getElem_of_mem hc
      simp only [List.length_take] at hj
      rw [List.getElem_take]
      simpa using h3 j (by omega)
    have e2 : (n.cuts.drop (i + 1)).filter (fun c => !decide (c = pr a b)) = n.cuts.drop (i + 1) := by
      rw [List.filter_eq_self]
      intro c hc
      obtain ⟨j, hj, rfl⟩ := List.getElem_of_mem hc
      simp only [List.length_drop] at hj
      rw [List.getElem_drop]
      have := hS i (i + 1 + j) h1 (by omega) (by omega)
      rw [h2] at this
      have hne : n.cuts[i + 1 + j] ≠ pr a b := fun he => by rw [he, less_irrefl] at this; cases this
      simpa using hne
    have : n.cuts.filter (fun c => !decide (c = pr a b)) = n.cuts.take i ++ n.cuts.drop (i + 1) := by
      conv => lhs; rw [e]
      rw [List.filter_append, e1, List.filter_cons_of_neg (by simp [h2]), e2]
    simp only [this]

/-- Lose (0), Double (1), Sever (2) or Heal: the law's helper forgets the packet. -/
def doneN (n : Net) (w a b : Int) : Taken :=
  if w = 0 then ⟨(lose n a).n, p0, (lose n a).e⟩
  else if w = 1 then ⟨(double n a).n, p0, (double n a).e⟩
  else if w = 2 then ⟨(sever n a b).n, p0, (sever n a b).e⟩
  else ⟨(heal n a b).n, p0, (heal n a b).e⟩

end Go.Proofs.Ytnemmdbafngppaa.Net

/- Contracts of functions of this translation. Printed by wip/tools/gen.py out of wip/net/ann.py. No condition. -/
set_option linter.unusedVariables false
set_option linter.unusedSimpArgs false
namespace Go.Proofs.Ytnemmdbafngppaa.Net
open Go.Proofs.Ytnemmdbafngppaa.Abs
set_option maxRecDepth 100000
set_option maxHeartbeats 4000000
theorem C45 (a : Int) : Has Try.prog 45 [.i a] (.b (part a)) := by   -- burgage/burgageref32.part
  refine Has.intro 9 Try.func45 (by kernel_rfl) rfl rfl fun w ok => ?_
  refine AT.seq ?_
  refine AT.region ?_   -- region 0 ref.go:7
  refine TrC.take rfl (step_assign rfl rfl rfl) ?_   -- 0
  refine TrC.done ?_
  refine AT.seq ?_
  refine AT.region ?_   -- region 1 ref.go:7
  refine TrC.take rfl (step_move rfl rfl rfl) ?_   -- 0
  refine TrC.take rfl (step_bin rfl rfl rfl rfl rfl) ?_   -- 1
  refine TrC.take rfl (step_move rfl rfl rfl) ?_   -- 2
  refine TrC.cases (d := 5) rfl (fun h5 => ?_) (fun h5 => ?_)
  · -- t5 = true
    refine TrC.take ⟨_, _, rfl, rfl, rfl⟩ (step_move rfl rfl rfl) ?_   -- 3
    refine TrC.take ⟨_, _, rfl, rfl, rfl⟩ (step_bin rfl rfl rfl rfl rfl) ?_   -- 4
    refine TrC.take rfl (step_pick rfl rfl rfl rfl) ?_   -- 5
    refine TrC.take rfl (step_assign rfl rfl rfl) ?_   -- 6
    refine TrC.done ?_
    refine AT.ret ?_
    exact Ret.one rfl (ResR.tmp rfl (conv_b (by first | (simp_all [part]; done) | (simp_all [part] <;> intros <;> omega) | (rw [Bool.eq_iff_iff]; simp_all [part]; done) | (rw [Bool.eq_iff_iff]; simp_all [part] <;> omega))))
  · -- t5 = false
    refine TrC.skip ⟨_, _, rfl, rfl, rfl⟩ ?_   -- 3
    refine TrC.skip ⟨_, _, rfl, rfl, rfl⟩ ?_   -- 4
    refine TrC.take rfl (step_pick rfl rfl rfl rfl) ?_   -- 5
    refine TrC.take rfl (step_assign rfl rfl rfl) ?_   -- 6
    refine TrC.done ?_
    refine AT.ret ?_
    exact Ret.one rfl (ResR.tmp rfl (conv_b (by first | (simp_all [part]; done) | (simp_all [part] <;> intros <;> omega) | (rw [Bool.eq_iff_iff]; simp_all [part]; done) | (rw [Bool.eq_iff_iff]; simp_all [part] <;> omega))))

theorem C30 (a b : Int) : Has Try.prog 30 [.i a, .i b] (.b (parts a b)) := by   -- burgage/burgageref32.parts
  refine Has.intro 16 Try.func30 (by kernel_rfl) rfl rfl fun w ok => ?_
  refine AT.seq ?_
  refine AT.region ?_   -- region 0 ref.go:10
  refine TrC.take rfl (step_assign rfl rfl rfl) ?_   -- 0
  refine TrC.done ?_
  refine AT.seq ?_
  refine AT.region ?_   -- region 1 ref.go:10
  refine TrC.take rfl (step_move rfl rfl rfl) ?_   -- 0
  refine TrC.take rfl (step_call0 rfl rfl (C45 a) rfl) ?_   -- 1
  refine TrC.take rfl (step_move rfl rfl rfl) ?_   -- 2
  refine TrC.cases (d := 7) rfl (fun h7 => ?_) (fun h7 => ?_)
  · -- t7 = true
    refine TrC.take ⟨_, _, rfl, rfl, rfl⟩ (step_move rfl rfl rfl) ?_   -- 3
    refine TrC.take ⟨_, _, rfl, rfl, rfl⟩ (step_call0 rfl rfl (C45 b) rfl) ?_   -- 4
    refine TrC.take rfl (step_pick rfl rfl rfl rfl) ?_   -- 5
    refine TrC.take rfl (step_move rfl rfl rfl) ?_   -- 6
    refine TrC.cases (d := 11) rfl (fun h11 => ?_) (fun h11 => ?_)
    · -- t11 = true
      refine TrC.take ⟨_, _, rfl, rfl, rfl⟩ (step_move rfl rfl rfl) ?_   -- 7
      refine TrC.take ⟨_, _, rfl, rfl, rfl⟩ (step_move rfl rfl rfl) ?_   -- 8
      refine TrC.take ⟨_, _, rfl, rfl, rfl⟩ (step_bin rfl rfl rfl rfl rfl) ?_   -- 9
      refine TrC.take rfl (step_pick rfl rfl rfl rfl) ?_   -- 10
      refine TrC.take rfl (step_assign rfl rfl rfl) ?_   -- 11
      refine TrC.done ?_
      refine AT.ret ?_
      exact Ret.one rfl (ResR.tmp rfl (conv_b (by first | (simp_all [parts]; done) | (simp_all [parts] <;> intros <;> omega) | (rw [Bool.eq_iff_iff]; simp_all [parts]; done) | (rw [Bool.eq_iff_iff]; simp_all [parts] <;> omega))))
    · -- t11 = false
      refine TrC.skip ⟨_, _, rfl, rfl, rfl⟩ ?_   -- 7
      refine TrC.skip ⟨_, _, rfl, rfl, rfl⟩ ?_   -- 8
      refine TrC.skip ⟨_, _, rfl, rfl, rfl⟩ ?_   -- 9
      refine TrC.take rfl (step_pick rfl rfl rfl rfl) ?_   -- 10
      refine TrC.take rfl (step_assign rfl rfl rfl) ?_   -- 11
      refine TrC.done ?_
      refine AT.ret ?_
      exact Ret.one rfl (ResR.tmp rfl (conv_b (by first | (simp_all [parts]; done) | (simp_all [parts] <;> intros <;> omega) | (rw [Bool.eq_iff_iff]; simp_all [parts]; done) | (rw [Bool.eq_iff_iff]; simp_all [parts] <;> omega))))
  · -- t7 = false
    refine TrC.skip ⟨_, _, rfl, rfl, rfl⟩ ?_   -- 3
    refine TrC.skip ⟨_, _, rfl, rfl, rfl⟩ ?_   -- 4
    refine TrC.take rfl (step_pick rfl rfl rfl rfl) ?_   -- 5
    refine TrC.take rfl (step_move rfl rfl rfl) ?_   -- 6
    refine TrC.skip ⟨_, _, rfl, rfl, rfl⟩ ?_   -- 7
    refine TrC.skip ⟨_, _, rfl, rfl, rfl⟩ ?_   -- 8
    refine TrC.skip ⟨_, _, rfl, rfl, rfl⟩ ?_   -- 9
    refine TrC.take rfl (step_pick rfl rfl rfl rfl) ?_   -- 10
    refine TrC.take rfl (step_assign rfl rfl rfl) ?_   -- 11
    refine TrC.done ?_
    refine AT.ret ?_
    exact Ret.one rfl (ResR.tmp rfl (conv_b (by first | (simp_all [parts]; done) | (simp_all [parts] <;> intros <;> omega) | (rw [Bool.eq_iff_iff]; simp_all [parts]; done) | (rw [Bool.eq_iff_iff]; simp_all [parts] <;> omega))))

theorem C43 (a b : Int) : Has Try.prog 43 [.i a, .i b] (.b (parts a b)) := by   -- burgage/net.parts
  refine Has.intro 24 Try.func43 (by kernel_rfl) rfl rfl fun w ok => ?_
  refine AT.seq ?_
  refine AT.region ?_   -- region 0 net.go:15
  refine TrC.take rfl (step_assign rfl rfl rfl) ?_   -- 0
  refine TrC.done ?_
  refine AT.seq ?_
  refine AT.region ?_   -- region 1 net.go:16
  refine TrC.take rfl (step_move rfl rfl rfl) ?_   -- 0
  refine TrC.take rfl (step_bin rfl rfl rfl rfl rfl) ?_   -- 1
  refine TrC.take rfl (step_move rfl rfl rfl) ?_   -- 2
  refine TrC.cases (d := 7) rfl (fun h7 => ?_) (fun h7 => ?_)
  · -- t7 = true
    refine TrC.take ⟨_, _, rfl, rfl, rfl⟩ (step_move rfl rfl rfl) ?_   -- 3
    refine TrC.take ⟨_, _, rfl, rfl, rfl⟩ (step_bin rfl rfl rfl rfl rfl) ?_   -- 4
    refine TrC.take rfl (step_pick rfl rfl rfl rfl) ?_   -- 5
    refine TrC.take rfl (step_move rfl rfl rfl) ?_   -- 6
    refine TrC.cases (d := 11) rfl (fun h11 => ?_) (fun h11 => ?_)
    · -- t11 = true
      refine TrC.take ⟨_, _, rfl, rfl, rfl⟩ (step_move rfl rfl rfl) ?_   -- 7
      refine TrC.take ⟨_, _, rfl, rfl, rfl⟩ (step_bin rfl rfl rfl rfl rfl) ?_   -- 8
      refine TrC.take rfl (step_pick rfl rfl rfl rfl) ?_   -- 9
      refine TrC.take rfl (step_move rfl rfl rfl) ?_   -- 10
      refine TrC.cases (d := 15) rfl (fun h15 => ?_) (fun h15 => ?_)
      · -- t15 = true
        refine TrC.take ⟨_, _, rfl, rfl, rfl⟩ (step_move rfl rfl rfl) ?_   -- 11
        refine TrC.take ⟨_, _, rfl, rfl, rfl⟩ (step_bin rfl rfl rfl rfl rfl) ?_   -- 12
        refine TrC.take rfl (step_pick rfl rfl rfl rfl) ?_   -- 13
        refine TrC.take rfl (step_move rfl rfl rfl) ?_   -- 14
        refine TrC.cases (d := 19) rfl (fun h19 => ?_) (fun h19 => ?_)
        · -- t19 = true
          refine TrC.take ⟨_, _, rfl, rfl, rfl⟩ (step_move rfl rfl rfl) ?_   -- 15
          refine TrC.take ⟨_, _, rfl, rfl, rfl⟩ (step_move rfl rfl rfl) ?_   -- 16
          refine TrC.take ⟨_, _, rfl, rfl, rfl⟩ (step_bin rfl rfl rfl rfl rfl) ?_   -- 17
          refine TrC.take rfl (step_pick rfl rfl rfl rfl) ?_   -- 18
          refine TrC.take rfl (step_assign rfl rfl rfl) ?_   -- 19
          refine TrC.done ?_
          refine AT.ret ?_
          exact Ret.one rfl (ResR.tmp rfl (conv_b (by first | (simp_all [parts, part]; done) | (simp_all [parts, part] <;> intros <;> omega) | (rw [Bool.eq_iff_iff]; simp_all [parts, part]; done) | (rw [Bool.eq_iff_iff]; simp_all [parts, part] <;> omega))))
        · -- t19 = false
          refine TrC.skip ⟨_, _, rfl, rfl, rfl⟩ ?_   -- 15
          refine TrC.skip ⟨_, _, rfl, rfl, rfl⟩ ?_   -- 16
          refine TrC.skip ⟨_, _, rfl, rfl, rfl⟩ ?_   -- 17
          refine TrC.take rfl (step_pick rfl rfl rfl rfl) ?_   -- 18
          refine TrC.take rfl (step_assign rfl rfl rfl) ?_   -- 19
          refine TrC.done ?_
          refine AT.ret ?_
          exact Ret.one rfl (ResR.tmp rfl (conv_b (by first | (simp_all [parts, part]; done) | (simp_all [parts, part] <;> intros <;> omega) | (rw [Bool.eq_iff_iff]; simp_all [parts, part]; done) | (rw [Bool.eq_iff_iff]; simp_all [parts, part] <;> omega))))
      · -- t15 = false
        refine TrC.skip ⟨_, _, rfl, rfl, rfl⟩ ?_   -- 11
        refine TrC.skip ⟨_, _, rfl, rfl, rfl⟩ ?_   -- 12
        refine TrC.take rfl (step_pick rfl rfl rfl rfl) ?_   -- 13
        refine TrC.take rfl (step_move rfl rfl rfl) ?_   -- 14
        refine TrC.skip ⟨_, _, rfl, rfl, rfl⟩ ?_   -- 15
        refine TrC.skip ⟨_, _, rfl, rfl, rfl⟩ ?_   -- 16
        refine TrC.skip ⟨_, _, rfl, rfl, rfl⟩ ?_   -- 17
        refine TrC.take rfl (step_pick rfl rfl rfl rfl) ?_   -- 18
        refine TrC.take rfl (step_assign rfl rfl rfl) ?_   -- 19
        refine TrC.done ?_
        refine AT.ret ?_
        exact Ret.one rfl (ResR.tmp rfl (conv_b (by first | (simp_all [parts, part]; done) | (simp_all [parts, part] <;> intros <;> omega) | (rw [Bool.eq_iff_iff]; simp_all [parts, part]; done) | (rw [Bool.eq_iff_iff]; simp_all [parts, part] <;> omega))))
    · -- t11 = false
      refine TrC.skip ⟨_, _, rfl, rfl, rfl⟩ ?_   -- 7
      refine TrC.skip ⟨_, _, rfl, rfl, rfl⟩ ?_   -- 8
      refine TrC.take rfl (step_pick rfl rfl rfl rfl) ?_   -- 9
      refine TrC.take rfl (step_move rfl rfl rfl) ?_   -- 10
      refine TrC.skip ⟨_, _, rfl, rfl, rfl⟩ ?_   -- 11
      refine TrC.skip ⟨_, _, rfl, rfl, rfl⟩ ?_   -- 12
      refine TrC.take rfl (step_pick rfl rfl rfl rfl) ?_   -- 13
      refine TrC.take rfl (step_move rfl rfl rfl) ?_   -- 14
      refine TrC.skip ⟨_, _, rfl, rfl, rfl⟩ ?_   -- 15
      refine TrC.skip ⟨_, _, rfl, rfl, rfl⟩ ?_   -- 16
      refine TrC.skip ⟨_, _, rfl, rfl, rfl⟩ ?_   -- 17
      refine TrC.take rfl (step_pick rfl rfl rfl rfl) ?_   -- 18
      refine TrC.take rfl (step_assign rfl rfl rfl) ?_   -- 19
      refine TrC.done ?_
      refine AT.ret ?_
      exact Ret.one rfl (ResR.tmp rfl (conv_b (by first | (simp_all [parts, part]; done) | (simp_all [parts, part] <;> intros <;> omega) | (rw [Bool.eq_iff_iff]; simp_all [parts, part]; done) | (rw [Bool.eq_iff_iff]; simp_all [parts, part] <;> omega))))
  · -- t7 = false
    refine TrC.skip ⟨_, _, rfl, rfl, rfl⟩ ?_   -- 3
    refine TrC.skip ⟨_, _, rfl, rfl, rfl⟩ ?_   -- 4
    refine TrC.take rfl (step_pick rfl rfl rfl rfl) ?_   -- 5
    refine TrC.take rfl (step_move rfl rfl rfl) ?_   -- 6
    refine TrC.skip ⟨_, _, rfl, rfl, rfl⟩ ?_   -- 7
    refine TrC.skip ⟨_, _, rfl, rfl, rfl⟩ ?_   -- 8
    refine TrC.take rfl (step_pick rfl rfl rfl rfl) ?_   -- 9
    refine TrC.take rfl (step_move rfl rfl rfl) ?_   -- 10
    refine TrC.skip ⟨_, _, rfl, rfl, rfl⟩ ?_   -- 11
    refine TrC.skip ⟨_, _, rfl, rfl, rfl⟩ ?_   -- 12
    refine TrC.take rfl (step_pick rfl rfl rfl rfl) ?_   -- 13
    refine TrC.take rfl (step_move rfl rfl rfl) ?_   -- 14
    refine TrC.skip ⟨_, _, rfl, rfl, rfl⟩ ?_   -- 15
    refine TrC.skip ⟨_, _, rfl, rfl, rfl⟩ ?_   -- 16
    refine TrC.skip ⟨_, _, rfl, rfl, rfl⟩ ?_   -- 17
    refine TrC.take rfl (step_pick rfl rfl rfl rfl) ?_   -- 18
    refine TrC.take rfl (step_assign rfl rfl rfl) ?_   -- 19
    refine TrC.done ?_
    refine AT.ret ?_
    exact Ret.one rfl (ResR.tmp rfl (conv_b (by first | (simp_all [parts, part]; done) | (simp_all [parts, part] <;> intros <;> omega) | (rw [Bool.eq_iff_iff]; simp_all [parts, part]; done) | (rw [Bool.eq_iff_iff]; simp_all [parts, part] <;> omega))))

theorem C42 (a b : Int × Int) : Has Try.prog 42 [encC a, encC b] (.b (less a b)) := by   -- burgage/burgageref32.less
  refine Has.intro 24 Try.func42 (by kernel_rfl) rfl rfl fun w ok => ?_
  refine AT.seq ?_
  refine AT.region ?_   -- region 0 ref.go:13
  refine TrC.take rfl (step_box rfl rfl rfl rfl rfl rfl rfl) ?_   -- 0
  refine TrC.take rfl (step_box rfl rfl rfl rfl rfl rfl rfl) ?_   -- 1
  refine TrC.take rfl (step_assign rfl rfl rfl) ?_   -- 2
  refine TrC.done ?_
  refine AT.seq ?_
  refine AT.region ?_   -- region 1 ref.go:13
  refine TrC.take rfl (step_indexAddrP rfl rfl rfl ar32 (by decide) (by decide) rfl) ?_   -- 0
  refine TrC.take rfl (step_loadP1 rfl rfl rfl ty3 rfl rfl) ?_   -- 1
  refine TrC.take rfl (step_indexAddrP rfl rfl rfl ar32 (by decide) (by decide) rfl) ?_   -- 2
  refine TrC.take rfl (step_loadP1 rfl rfl rfl ty3 rfl rfl) ?_   -- 3
  refine TrC.take rfl (step_bin rfl rfl rfl rfl rfl) ?_   -- 4
  refine TrC.take rfl (step_move rfl rfl rfl) ?_   -- 5
  refine TrC.cases (d := 10) rfl (fun h10 => ?_) (fun h10 => ?_)
  · -- t10 = true
    refine TrC.skip ⟨_, _, rfl, rfl, rfl⟩ ?_   -- 6
    refine TrC.skip ⟨_, _, rfl, rfl, rfl⟩ ?_   -- 7
    refine TrC.skip ⟨_, _, rfl, rfl, rfl⟩ ?_   -- 8
    refine TrC.skip ⟨_, _, rfl, rfl, rfl⟩ ?_   -- 9
    refine TrC.skip ⟨_, _, rfl, rfl, rfl⟩ ?_   -- 10
    refine TrC.skip ⟨_, _, rfl, rfl, rfl⟩ ?_   -- 11
    refine TrC.skip ⟨_, _, rfl, rfl, rfl⟩ ?_   -- 12
    refine TrC.skip ⟨_, _, rfl, rfl, rfl⟩ ?_   -- 13
    refine TrC.skip ⟨_, _, rfl, rfl, rfl⟩ ?_   -- 14
    refine TrC.skip ⟨_, _, rfl, rfl, rfl⟩ ?_   -- 15
    refine TrC.skip ⟨_, _, rfl, rfl, rfl⟩ ?_   -- 16
    refine TrC.skip ⟨_, _, rfl, rfl, rfl⟩ ?_   -- 17
    refine TrC.take rfl (step_pick rfl rfl rfl rfl) ?_   -- 18
    refine TrC.take rfl (step_assign rfl rfl rfl) ?_   -- 19
    refine TrC.done ?_
    refine AT.ret ?_
    exact Ret.one rfl (ResR.tmp rfl (conv_b (by first | (simp_all [less]; done) | (simp_all [less] <;> intros <;> omega) | (rw [Bool.eq_iff_iff]; simp_all [less]; done) | (rw [Bool.eq_iff_iff]; simp_all [less] <;> omega))))
  · -- t10 = false
    refine TrC.take ⟨_, _, rfl, rfl, rfl⟩ (step_indexAddrP rfl rfl rfl ar32 (by decide) (by decide) rfl) ?_   -- 6
    refine TrC.take ⟨_, _, rfl, rfl, rfl⟩ (step_loadP1 rfl rfl rfl ty3 rfl rfl) ?_   -- 7
    refine TrC.take ⟨_, _, rfl, rfl, rfl⟩ (step_indexAddrP rfl rfl rfl ar32 (by decide) (by decide) rfl) ?_   -- 8
    refine TrC.take ⟨_, _, rfl, rfl, rfl⟩ (step_loadP1 rfl rfl rfl ty3 rfl rfl) ?_   -- 9
    refine TrC.take ⟨_, _, rfl, rfl, rfl⟩ (step_bin rfl rfl rfl rfl rfl) ?_   -- 10
    refine TrC.take ⟨_, _, rfl, rfl, rfl⟩ (step_move rfl rfl rfl) ?_   -- 11
    refine TrC.cases (d := 16) rfl (fun h16 => ?_) (fun h16 => ?_)
    · -- t16 = true
      refine TrC.take ⟨_, _, rfl, rfl, rfl⟩ (step_indexAddrP rfl rfl rfl ar32 (by decide) (by decide) rfl) ?_   -- 12
      refine TrC.take ⟨_, _, rfl, rfl, rfl⟩ (step_loadP1 rfl rfl rfl ty3 rfl rfl) ?_   -- 13
      refine TrC.take ⟨_, _, rfl, rfl, rfl⟩ (step_indexAddrP rfl rfl rfl ar32 (by decide) (by decide) rfl) ?_   -- 14
      refine TrC.take ⟨_, _, rfl, rfl, rfl⟩ (step_loadP1 rfl rfl rfl ty3 rfl rfl) ?_   -- 15
      refine TrC.take ⟨_, _, rfl, rfl, rfl⟩ (step_bin rfl rfl rfl rfl rfl) ?_   -- 16
      refine TrC.take ⟨_, _, rfl, rfl, rfl⟩ (step_pick rfl rfl rfl rfl) ?_   -- 17
      refine TrC.take rfl (step_pick rfl rfl rfl rfl) ?_   -- 18
      refine TrC.take rfl (step_assign rfl rfl rfl) ?_   -- 19
      refine TrC.done ?_
      refine AT.ret ?_
      exact Ret.one rfl (ResR.tmp rfl (conv_b (by first | (simp_all [less]; done) | (simp_all [less] <;> intros <;> omega) | (rw [Bool.eq_iff_iff]; simp_all [less]; done) | (rw [Bool.eq_iff_iff]; simp_all [less] <;> omega))))
    · -- t16 = false
      refine TrC.skip ⟨_, _, rfl, rfl, rfl⟩ ?_   -- 12
      refine TrC.skip ⟨_, _, rfl, rfl, rfl⟩ ?_   -- 13
      refine TrC.skip ⟨_, _, rfl, rfl, rfl⟩ ?_   -- 14
      refine TrC.skip ⟨_, _, rfl, rfl, rfl⟩ ?_   -- 15
      refine TrC.skip ⟨_, _, rfl, rfl, rfl⟩ ?_   -- 16
      refine TrC.take ⟨_, _, rfl, rfl, rfl⟩ (step_pick rfl rfl rfl rfl) ?_   -- 17
      refine TrC.take rfl (step_pick rfl rfl rfl rfl) ?_   -- 18
      refine TrC.take rfl (step_assign rfl rfl rfl) ?_   -- 19
      refine TrC.done ?_
      refine AT.ret ?_
      exact Ret.one rfl (ResR.tmp rfl (conv_b (by first | (simp_all [less]; done) | (simp_all [less] <;> intros <;> omega) | (rw [Bool.eq_iff_iff]; simp_all [less]; done) | (rw [Bool.eq_iff_iff]; simp_all [less] <;> omega))))

theorem C57 (a : Int) : Has Try.prog 57 [.i a] (.b false) := by   -- cmp.isNaN[int]
  refine Has.intro 6 Try.func57 (by kernel_rfl) rfl rfl fun w ok => ?_
  refine AT.seq ?_
  refine AT.region ?_   -- region 0 cmp.go:63
  refine TrC.take rfl (step_assign rfl rfl rfl) ?_   -- 0
  refine TrC.done ?_
  refine AT.seq ?_
  refine AT.region ?_   -- region 1 cmp.go:64
  refine TrC.take rfl (step_move rfl rfl rfl) ?_   -- 0
  refine TrC.take rfl (step_move rfl rfl rfl) ?_   -- 1
  refine TrC.take rfl (step_bin rfl rfl rfl rfl rfl) ?_   -- 2
  refine TrC.take rfl (step_assign rfl rfl rfl) ?_   -- 3
  refine TrC.done ?_
  refine AT.ret ?_
  exact Ret.one rfl (ResR.tmp rfl (conv_b (by simp)))

theorem C48 (a b : Int) : Has Try.prog 48 [.i a, .i b] (.i (cmpI a b)) := by   -- cmp.Compare[int]
  refine Has.intro 20 Try.func48 (by kernel_rfl) rfl rfl fun w ok => ?_
  refine AT.seq ?_
  refine AT.region ?_   -- region 0 cmp.go:40
  refine TrC.take rfl (step_assign rfl rfl rfl) ?_   -- 0
  refine TrC.done ?_
  refine AT.seq ?_
  refine AT.region ?_   -- region 1 cmp.go:41
  refine TrC.take rfl (step_move rfl rfl rfl) ?_   -- 0
  refine TrC.take rfl (step_call0 rfl rfl (C57 a) rfl) ?_   -- 1
  refine TrC.take rfl (step_assign rfl rfl rfl) ?_   -- 2
  refine TrC.done ?_
  refine AT.seq ?_
  refine AT.region ?_   -- region 2 cmp.go:42
  refine TrC.take rfl (step_move rfl rfl rfl) ?_   -- 0
  refine TrC.take rfl (step_call0 rfl rfl (C57 b) rfl) ?_   -- 1
  refine TrC.take rfl (step_assign rfl rfl rfl) ?_   -- 2
  refine TrC.done ?_
  refine AT.seq ?_
  refine AT.seq ?_
  refine AT.region ?_   -- region 3 cmp.go:43
  refine TrC.take rfl (step_move rfl rfl rfl) ?_   -- 0
  refine TrC.done ?_
  refine AT.cond rfl (fun h11 => ?_) (fun h11 => ?_)   -- t11
  · -- true
    refine AT.seq ?_
    refine AT.seq ?_
    refine AT.region ?_   -- region 4 cmp.go:44
    refine TrC.take rfl (step_move rfl rfl rfl) ?_   -- 0
    refine TrC.done ?_
    refine AT.cond rfl (fun h12 => ?_) (fun h12 => ?_)   -- t12
    · -- true
      refine AT.seq ?_
      refine AT.region ?_   -- region 5 cmp.go:45
      refine TrC.take rfl (step_assign rfl rfl rfl) ?_   -- 0
      refine TrC.done ?_
      refine AT.ret ?_
      exact Ret.one rfl (ResR.tmp rfl (conv_i (by simp_all [cmpI] <;> omega)))
    · -- false
      refine AT.skip ?_
      refine AT.seq ?_
      refine AT.region ?_   -- region 6 cmp.go:47
      refine TrC.take rfl (step_assign rfl rfl rfl) ?_   -- 0
      refine TrC.done ?_
      refine AT.ret ?_
      exact Ret.one rfl (ResR.tmp rfl (conv_i (by simp_all [cmpI] <;> omega)))
  · -- false
    refine AT.skip ?_
    refine AT.seq ?_
    refine AT.seq ?_
    refine AT.region ?_   -- region 7 cmp.go:49
    refine TrC.take rfl (step_move rfl rfl rfl) ?_   -- 0
    refine TrC.done ?_
    refine AT.cond rfl (fun h13 => ?_) (fun h13 => ?_)   -- t13
    · -- true
      refine AT.seq ?_
      refine AT.region ?_   -- region 8 cmp.go:50
      refine TrC.take rfl (step_assign rfl rfl rfl) ?_   -- 0
      refine TrC.done ?_
      refine AT.ret ?_
      exact Ret.one rfl (ResR.tmp rfl (conv_i (by simp_all [cmpI] <;> omega)))
    · -- false
      refine AT.skip ?_
      refine AT.seq ?_
      refine AT.seq ?_
      refine AT.region ?_   -- region 9 cmp.go:52
      refine TrC.take rfl (step_move rfl rfl rfl) ?_   -- 0
      refine TrC.take rfl (step_move rfl rfl rfl) ?_   -- 1
      refine TrC.take rfl (step_bin rfl rfl rfl rfl rfl) ?_   -- 2
      refine TrC.done ?_
      refine AT.cond rfl (fun h16 => ?_) (fun h16 => ?_)   -- t16
      · -- true
        refine AT.seq ?_
        refine AT.region ?_   -- region 10 cmp.go:53
        refine TrC.take rfl (step_assign rfl rfl rfl) ?_   -- 0
        refine TrC.done ?_
        refine AT.ret ?_
        exact Ret.one rfl (ResR.tmp rfl (conv_i (by simp_all [cmpI] <;> omega)))
      · -- false
        refine AT.skip ?_
        refine AT.seq ?_
        refine AT.seq ?_
        refine AT.region ?_   -- region 11 cmp.go:55
        refine TrC.take rfl (step_move rfl rfl rfl) ?_   -- 0
        refine TrC.take rfl (step_move rfl rfl rfl) ?_   -- 1
        refine TrC.take rfl (step_bin rfl rfl rfl rfl rfl) ?_   -- 2
        refine TrC.done ?_
        refine AT.cond rfl (fun h19 => ?_) (fun h19 => ?_)   -- t19
        · -- true
          refine AT.seq ?_
          refine AT.region ?_   -- region 12 cmp.go:56
          refine TrC.take rfl (step_assign rfl rfl rfl) ?_   -- 0
          refine TrC.done ?_
          refine AT.ret ?_
          exact Ret.one rfl (ResR.tmp rfl (conv_i (by simp_all [cmpI] <;> omega)))
        · -- false
          refine AT.skip ?_
          refine AT.seq ?_
          refine AT.region ?_   -- region 13 cmp.go:58
          refine TrC.take rfl (step_assign rfl rfl rfl) ?_   -- 0
          refine TrC.done ?_
          refine AT.ret ?_
          exact Ret.one rfl (ResR.tmp rfl (conv_i (by simp_all [cmpI] <;> omega)))

theorem C35 (a b : Int) : Has Try.prog 35 [.i a, .i b] (encC (pr a b)) := by   -- burgage/net.of
  refine Has.intro 12 Try.func35 (by kernel_rfl) rfl rfl fun w ok => ?_
  refine AT.seq ?_
  refine AT.region ?_   -- region 0 net.go:20
  refine TrC.take rfl (step_alloc rfl rfl ze32 rfl rfl rfl) ?_   -- 0
  refine TrC.done ?_
  refine AT.seq ?_
  refine AT.region ?_   -- region 1 net.go:20
  refine TrC.take rfl (step_move rfl rfl rfl) ?_   -- 0
  refine TrC.take rfl (step_move rfl rfl rfl) ?_   -- 1
  refine TrC.take rfl (step_min rfl rfl rfl rfl) ?_   -- 2
  refine TrC.take rfl (step_move rfl rfl rfl) ?_   -- 3
  refine TrC.take rfl (step_move rfl rfl rfl) ?_   -- 4
  refine TrC.take rfl (step_max rfl rfl rfl rfl) ?_   -- 5
  refine TrC.take rfl (step_buildA rfl ze32 rfl ar32 rfl rfl rfl rfl) ?_   -- 6
  refine TrC.take rfl (step_storeP rfl rfl rfl rfl rfl (.inl rfl) ty32 rfl rfl rfl) ?_   -- 7
  refine TrC.done ?_
  refine AT.ret ?_
  exact Ret.one rfl (ResR.cellN rfl rfl ty32 rfl rfl (conv_eq rfl))

end Go.Proofs.Ytnemmdbafngppaa.Net

/- Contracts of functions of this translation. Printed by wip/tools/gen.py out of wip/net/ann.py. No condition. -/
set_option linter.unusedVariables false
set_option linter.unusedSimpArgs false
namespace Go.Proofs.Ytnemmdbafngppaa.Net
open Go.Proofs.Ytnemmdbafngppaa.Abs
set_option maxRecDepth 100000
set_option maxHeartbeats 4000000
theorem C37 (n : Net) (a b : Int) (hl : n.cuts.length ≤ 1000000) : Has Try.prog 37 [encN n, .i a, .i b] (.i (ixI (cutIx n a b))) := by   -- burgage/burgageref32.cut
  refine Has.intro 29 Try.func37 (by kernel_rfl) rfl rfl fun w ok => ?_
  refine AT.seq ?_
  refine AT.region ?_   -- region 0 ref.go:33
  refine TrC.take rfl (step_box rfl rfl rfl rfl rfl rfl rfl) ?_   -- 0
  refine TrC.take rfl (step_assign rfl rfl rfl) ?_   -- 1
  refine TrC.done ?_
  refine AT.seq ?_
  refine AT.seq ?_
  refine AT.region ?_   -- region 1 ref.go:34
  refine TrC.take rfl (step_assign rfl rfl rfl) ?_   -- 0
  refine TrC.done ?_
  refine AT.block ?_   -- block 0
  refine AT.loopP (fun i : Nat => i ≤ n.cuts.length ∧ ∀ j (h : j < n.cuts.length), j < i → n.cuts[j] ≠ pr a b) (fun i => mkS [(1, .t (.i a)), (2, .t (.i b)), (3, .p 3 0), (7, .t (.i i))] [(3, .box 30 [.t (.slice 3 (n.fl.map encP)), .t (.slice 2 (n.cuts.map encC)), .t (.i n.next)])]) (fun i => n.cuts.length - i) (0) (⟨by omega, fun j h hj => by omega⟩) (fun a w hs => Sat.wk [] (.cons (.t (.refl _)) (.cons (.t (.refl _)) (.cons (.p rfl) (.cons (.t (.refl _)) (.nil))))) (.cons rfl (.box (.cons (.t (.refl _)) (.cons (.t (.refl _)) (.cons (.t (.refl _)) .nil)))) .nil) rfl rfl a w hs) (fun ix hix => ?_)
  obtain ⟨hi, hpre⟩ := hix
  refine AT.seq ?_
  refine AT.seq ?_
  refine AT.region ?_   -- region 2 ref.go:34
  refine TrC.take rfl (step_move rfl rfl rfl) ?_   -- 0
  refine TrC.take rfl (step_fieldAddrP rfl rfl fd30_1 rfl rfl) ?_   -- 1
  refine TrC.take rfl (step_loadP1 rfl rfl rfl ty28 rfl rfl) ?_   -- 2
  refine TrC.take rfl (step_lenT (rt := 0) rfl rfl sl28 rfl) ?_   -- 3
  refine TrC.take rfl (step_bin rfl rfl rfl rfl rfl) ?_   -- 4
  refine TrC.done ?_
  refine AT.cond rfl (fun h12 => ?_) (fun h12 => ?_)   -- t12
  · -- true
    have hlt : ix < n.cuts.length := by simpa using h12
    have hget : (n.cuts.map encC)[ix]? = some (.agg [.i n.cuts[ix].1, .i n.cuts[ix].2]) := by simp [hlt, encC]
    refine AT.skip ?_
    refine AT.seq ?_
    refine AT.block ?_   -- block 1
    refine AT.seq ?_
    refine AT.region ?_   -- region 4 ref.go:35
    refine TrC.take rfl (step_fieldAddrP rfl rfl fd30_1 rfl rfl) ?_   -- 0
    refine TrC.take rfl (step_loadP1 rfl rfl rfl ty28 rfl rfl) ?_   -- 1
    refine TrC.take rfl (step_move rfl rfl rfl) ?_   -- 2
    refine TrC.take rfl (step_indexAddrT (v := .agg [.i n.cuts[ix].1, .i n.cuts[ix].2]) rfl rfl rfl sl28 (by omega) (by simpa using hget) rfl rfl) ?_   -- 3
    refine TrC.take rfl (step_loadTN rfl rfl ty32 rfl rfl) ?_   -- 4
    refine TrC.take rfl (step_move rfl rfl rfl) ?_   -- 5
    refine TrC.take rfl (step_move rfl rfl rfl) ?_   -- 6
    refine TrC.take rfl (step_min rfl rfl rfl rfl) ?_   -- 7
    refine TrC.take rfl (step_move rfl rfl rfl) ?_   -- 8
    refine TrC.take rfl (step_move rfl rfl rfl) ?_   -- 9
    refine TrC.take rfl (step_max rfl rfl rfl rfl) ?_   -- 10
    refine TrC.take rfl (step_buildA rfl ze32 rfl ar32 rfl rfl rfl rfl) ?_   -- 11
    refine TrC.take rfl (step_eqa rfl rfl rfl rfl rfl ty32 eg32 (eq32 _ _ _ _) rfl) ?_   -- 12
    refine TrC.done ?_
    refine AT.cond rfl (fun h27 => ?_) (fun h27 => ?_)   -- t27
    · -- true
      have he : n.cuts[ix] = pr a b := by simpa [pr, Prod.ext_iff] using h27
      have hr : cutIx n a b = some ix := ix_found hlt (by simpa using he) (fun j hj hji => by simpa using hpre j hj hji)
      refine AT.seq ?_
      refine AT.region ?_   -- region 5 ref.go:36
      refine TrC.take rfl (step_move rfl rfl rfl) ?_   -- 0
      refine TrC.take rfl (step_assign rfl rfl rfl) ?_   -- 1
      refine TrC.done ?_
      refine AT.ret ?_
      exact Ret.one rfl (ResR.tmp rfl (conv_i (by rw [hr]; rfl)))
    · -- false
      have hne : n.cuts[ix] ≠ pr a b := by intro he; rw [Bool.eq_false_iff] at h27; exact h27 (by simp [he, pr])
      refine AT.skip ?_
      refine AT.region ?_   -- region 3 ref.go:34
      refine TrC.take rfl (step_move rfl rfl rfl) ?_   -- 0
      refine TrC.take rfl (step_addI rfl rfl rfl (by omega) (by omega) rfl) ?_   -- 1
      refine TrC.take rfl (step_assign rfl rfl rfl) ?_   -- 2
      refine TrC.done ?_
      exact ⟨ix + 1, ⟨by omega, fun j hj hji => by
        by_cases he : j = ix
        · subst he; exact hne
        · exact hpre j hj (by omega)⟩, by show n.cuts.length - (ix + 1) < n.cuts.length - ix; omega, Sat.wk [] (.cons (.t (.refl _)) (.cons (.t (.refl _)) (.cons (.p rfl) (.cons (.t (conv_i (by simp))) (.nil))))) (.cons rfl (.box (.cons (.t (.refl _)) (.cons (.t (.refl _)) (.cons (.t (.refl _)) .nil)))) .nil) rfl rfl⟩
  · -- false
    have hge : ¬ ix < n.cuts.length := by simpa using h12
    have hr : cutIx n a b = none := ix_none (fun j hj => by simpa using hpre j hj (by omega))
    refine AT.exit (Or.inl ⟨rfl, ?_⟩)   -- exit 0
    refine AT.seq ?_
    refine AT.region ?_   -- region 6 ref.go:39
    refine TrC.take rfl (step_assign rfl rfl rfl) ?_   -- 0
    refine TrC.done ?_
    refine AT.ret ?_
    exact Ret.one rfl (ResR.tmp rfl (conv_i (by rw [hr]; rfl)))

theorem C32 (n : Net) (id : Int) (hl : n.fl.length ≤ 1000000) : Has Try.prog 32 [encN n, .i id] (.i (ixI (findIx n id))) := by   -- burgage/burgageref32.find
  refine Has.intro 22 Try.func32 (by kernel_rfl) rfl rfl fun w ok => ?_
  refine AT.seq ?_
  refine AT.region ?_   -- region 0 ref.go:65
  refine TrC.take rfl (step_box rfl rfl rfl rfl rfl rfl rfl) ?_   -- 0
  refine TrC.take rfl (step_assign rfl rfl rfl) ?_   -- 1
  refine TrC.done ?_
  refine AT.seq ?_
  refine AT.seq ?_
  refine AT.region ?_   -- region 1 ref.go:66
  refine TrC.take rfl (step_assign rfl rfl rfl) ?_   -- 0
  refine TrC.done ?_
  refine AT.block ?_   -- block 0
  refine AT.loopP (fun i : Nat => i ≤ n.fl.length ∧ ∀ j (h : j < n.fl.length), j < i → n.fl[j].id ≠ id) (fun i => mkS [(1, .t (.i id)), (2, .p 2 0), (5, .t (.i i))] [(2, .box 30 [.t (.slice 3 (n.fl.map encP)), .t (.slice 2 (n.cuts.map encC)), .t (.i n.next)])]) (fun i => n.fl.length - i) (0) (⟨by omega, fun j h hj => by omega⟩) (fun a w hs => Sat.wk [] (.cons (.t (.refl _)) (.cons (.p rfl) (.cons (.t (.refl _)) (.nil)))) (.cons rfl (.box (.cons (.t (.refl _)) (.cons (.t (.refl _)) (.cons (.t (.refl _)) .nil)))) .nil) rfl rfl a w hs) (fun ix hix => ?_)
  obtain ⟨hi, hpre⟩ := hix
  refine AT.seq ?_
  refine AT.seq ?_
  refine AT.region ?_   -- region 2 ref.go:66
  refine TrC.take rfl (step_move rfl rfl rfl) ?_   -- 0
  refine TrC.take rfl (step_fieldAddrP rfl rfl fd30_0 rfl rfl) ?_   -- 1
  refine TrC.take rfl (step_loadP1 rfl rfl rfl ty27 rfl rfl) ?_   -- 2
  refine TrC.take rfl (step_lenT (rt := 0) rfl rfl sl27 rfl) ?_   -- 3
  refine TrC.take rfl (step_bin rfl rfl rfl rfl rfl) ?_   -- 4
  refine TrC.done ?_
  refine AT.cond rfl (fun h10 => ?_) (fun h10 => ?_)   -- t10
  · -- true
    have hlt : ix < n.fl.length := by simpa using h10
    have hget : (n.fl.map encP)[ix]? = some (.agg [.i n.fl[ix].id, .i n.fl[ix].fr, .i n.fl[ix].to]) := by simp [hlt, encP]
    refine AT.skip ?_
    refine AT.seq ?_
    refine AT.block ?_   -- block 1
    refine AT.seq ?_
    refine AT.region ?_   -- region 4 ref.go:67
    refine TrC.take rfl (step_fieldAddrP rfl rfl fd30_0 rfl rfl) ?_   -- 0
    refine TrC.take rfl (step_loadP1 rfl rfl rfl ty27 rfl rfl) ?_   -- 1
    refine TrC.take rfl (step_move rfl rfl rfl) ?_   -- 2
    refine TrC.take rfl (step_indexAddrT (v := .agg [.i n.fl[ix].id, .i n.fl[ix].fr, .i n.fl[ix].to]) rfl rfl rfl sl27 (by omega) (by simpa using hget) rfl rfl) ?_   -- 3
    refine TrC.take rfl (step_fieldAddrT rfl rfl fd25_0 rfl rfl rfl) ?_   -- 4
    refine TrC.take rfl (step_loadT1 rfl rfl ty3 rfl rfl) ?_   -- 5
    refine TrC.take rfl (step_move rfl rfl rfl) ?_   -- 6
    refine TrC.take rfl (step_bin rfl rfl rfl rfl rfl) ?_   -- 7
    refine TrC.done ?_
    refine AT.cond rfl (fun h20 => ?_) (fun h20 => ?_)   -- t20
    · -- true
      have he : n.fl[ix].id = id := by simpa using h20
      have hr : findIx n id = some ix := ix_found hlt (by simpa using he) (fun j hj hji => by simpa using hpre j hj hji)
      refine AT.seq ?_
      refine AT.region ?_   -- region 5 ref.go:68
      refine TrC.take rfl (step_move rfl rfl rfl) ?_   -- 0
      refine TrC.take rfl (step_assign rfl rfl rfl) ?_   -- 1
      refine TrC.done ?_
      refine AT.ret ?_
      exact Ret.one rfl (ResR.tmp rfl (conv_i (by rw [hr]; rfl)))
    · -- false
      have hne : n.fl[ix].id ≠ id := by simpa using h20
      refine AT.skip ?_
      refine AT.region ?_   -- region 3 ref.go:66
      refine TrC.take rfl (step_move rfl rfl rfl) ?_   -- 0
      refine TrC.take rfl (step_addI rfl rfl rfl (by omega) (by omega) rfl) ?_   -- 1
      refine TrC.take rfl (step_assign rfl rfl rfl) ?_   -- 2
      refine TrC.done ?_
      exact ⟨ix + 1, ⟨by omega, fun j hj hji => by
        by_cases he : j = ix
        · subst he; exact hne
        · exact hpre j hj (by omega)⟩, by show n.fl.length - (ix + 1) < n.fl.length - ix; omega, Sat.wk [] (.cons (.t (.refl _)) (.cons (.p rfl) (.cons (.t (conv_i (by simp))) (.nil)))) (.cons rfl (.box (.cons (.t (.refl _)) (.cons (.t (.refl _)) (.cons (.t (.refl _)) .nil)))) .nil) rfl rfl⟩
  · -- false
    have hge : ¬ ix < n.fl.length := by simpa using h10
    have hr : findIx n id = none := ix_none (fun j hj => by simpa using hpre j hj (by omega))
    refine AT.exit (Or.inl ⟨rfl, ?_⟩)   -- exit 0
    refine AT.seq ?_
    refine AT.region ?_   -- region 6 ref.go:71
    refine TrC.take rfl (step_assign rfl rfl rfl) ?_   -- 0
    refine TrC.done ?_
    refine AT.ret ?_
    exact Ret.one rfl (ResR.tmp rfl (conv_i (by rw [hr]; rfl)))

theorem C20 (n : Net) (a b : Int) (hl : n.cuts.length ≤ 1000000) : Has Try.prog 20 [encN n, .i a, .i b] (.b (reach n a b)) := by   -- burgage/burgageref32.Reach
  refine Has.intro 12 Try.func20 (by kernel_rfl) rfl rfl fun w ok => ?_
  refine AT.seq ?_
  refine AT.region ?_   -- region 0 ref.go:43
  refine TrC.take rfl (step_box rfl rfl rfl rfl rfl rfl rfl) ?_   -- 0
  refine TrC.take rfl (step_assign rfl rfl rfl) ?_   -- 1
  refine TrC.done ?_
  refine AT.seq ?_
  refine AT.region ?_   -- region 1 ref.go:43
  refine TrC.take rfl (step_loadPN rfl rfl rfl ty30 rfl rfl rfl) ?_   -- 0
  refine TrC.take rfl (step_move rfl rfl rfl) ?_   -- 1
  refine TrC.take rfl (step_move rfl rfl rfl) ?_   -- 2
  refine TrC.take rfl (step_call0 rfl rfl (C37 n a b hl) rfl) ?_   -- 3
  refine TrC.take rfl (step_bin rfl rfl rfl rfl rfl) ?_   -- 4
  refine TrC.take rfl (step_assign rfl rfl rfl) ?_   -- 5
  refine TrC.done ?_
  refine AT.ret ?_
  exact Ret.one rfl (ResR.tmp rfl (conv_b (by unfold reach; exact reach_dec _)))

end Go.Proofs.Ytnemmdbafngppaa.Net

/- Contracts of functions of this translation. Printed by wip/tools/gen.py out of wip/net/ann.py. No condition. -/
set_option linter.unusedVariables false
set_option linter.unusedSimpArgs false
namespace Go.Proofs.Ytnemmdbafngppaa.Net
open Go.Proofs.Ytnemmdbafngppaa.Abs
set_option maxRecDepth 100000
set_option maxHeartbeats 4000000
theorem C47 (a b : Int) : Has Try.prog 47 [.slice 1 [.i a, .i b]] (.i (if a ≠ 0 then a else b)) := by   -- cmp.Or[int]
  refine Has.intro 18 Try.func47 (by kernel_rfl) rfl rfl fun w ok => ?_
  refine AT.seq ?_
  refine AT.region ?_   -- region 0 cmp.go:69
  refine TrC.take rfl (step_assign rfl rfl rfl) ?_   -- 0
  refine TrC.done ?_
  refine AT.seq ?_
  refine AT.region ?_   -- region 1 cmp.go:70
  refine TrC.take rfl (step_assign rfl rfl rfl) ?_   -- 0
  refine TrC.done ?_
  refine AT.seq ?_
  refine AT.seq ?_
  refine AT.region ?_   -- region 2 cmp.go:71
  refine TrC.take rfl (step_move rfl rfl rfl) ?_   -- 0
  refine TrC.take rfl (step_lenT (rt := 0) rfl rfl sl88 rfl) ?_   -- 1
  refine TrC.take rfl (step_move rfl rfl rfl) ?_   -- 2
  refine TrC.done ?_
  refine AT.block ?_   -- block 0
  refine AT.loopP (fun i : Nat => i = 0 ∨ (i = 1 ∧ a = 0) ∨ (i = 2 ∧ a = 0 ∧ b = 0)) (fun i => mkS [(3, .t (.i 0)), (6, .t (.slice 1 [.i a, .i b])), (7, .t (.i 2)), (8, .t (.i i))] []) (fun i => 2 - i) (0) (.inl rfl) (fun a w hs => Sat.wk [] (.cons (.t (.refl _)) (.cons (.t (.refl _)) (.cons (.t (.refl _)) (.cons (.t (.refl _)) (.nil))))) (.nil) rfl rfl a w hs) (fun ix hix => ?_)
  refine AT.seq ?_
  refine AT.region ?_   -- region 3 cmp.go:71
  refine TrC.take rfl (step_bin rfl rfl rfl rfl rfl) ?_   -- 0
  refine TrC.done ?_
  refine AT.seq ?_
  refine AT.cond rfl (fun h9 => ?_) (fun h9 => ?_)   -- t9
  · -- true
    have hlt : ix < 2 := by
      have h9' : (ix : Int) < 2 := by simpa using h9
      omega
    obtain ⟨u, hu⟩ : ∃ u, u = (if ix = 0 then a else b) := ⟨_, rfl⟩
    have hget : ([.i a, .i b] : List T)[ix]? = some (.v (.int .i64 u)) := by
      rcases hix with rfl | ⟨rfl, _⟩ | ⟨rfl, _⟩
      · simp [hu]
      · simp [hu]
      · omega
    refine AT.skip ?_
    refine AT.seq ?_
    refine AT.block ?_   -- block 1
    refine AT.seq ?_
    refine AT.region ?_   -- region 4 cmp.go:71
    refine TrC.take rfl (step_indexAddrT (v := .v (.int .i64 u)) rfl rfl rfl sl88 (by omega) (by simpa using hget) rfl rfl) ?_   -- 0
    refine TrC.take rfl (step_loadT1 rfl rfl ty3 rfl rfl) ?_   -- 1
    refine TrC.take rfl (step_assign rfl rfl rfl) ?_   -- 2
    refine TrC.done ?_
    refine AT.seq ?_
    refine AT.region ?_   -- region 5 cmp.go:72
    refine TrC.take rfl (step_move rfl rfl rfl) ?_   -- 0
    refine TrC.take rfl (step_move rfl rfl rfl) ?_   -- 1
    refine TrC.take rfl (step_bin rfl rfl rfl rfl rfl) ?_   -- 2
    refine TrC.done ?_
    refine AT.cond rfl (fun h14 => ?_) (fun h14 => ?_)   -- t14
    · -- true
      have hne : u ≠ 0 := by simpa using h14
      have hr : (if a ≠ 0 then a else b) = u := by
        rcases hix with rfl | ⟨rfl, h1⟩ | ⟨rfl, _⟩
        · simp at hu; subst hu; simp [hne]
        · simp at hu; simp [h1, hu]
        · omega
      refine AT.seq ?_
      refine AT.region ?_   -- region 6 cmp.go:73
      refine TrC.take rfl (step_move rfl rfl rfl) ?_   -- 0
      refine TrC.take rfl (step_assign rfl rfl rfl) ?_   -- 1
      refine TrC.done ?_
      refine AT.ret ?_
      exact Ret.one rfl (ResR.tmp rfl (conv_i (by rw [hr])))
    · -- false
      have he : u = 0 := by simpa using h14
      have hnx : ix + 1 = 0 ∨ (ix + 1 = 1 ∧ a = 0) ∨ (ix + 1 = 2 ∧ a = 0 ∧ b = 0) := by
        rcases hix with rfl | ⟨rfl, h1⟩ | ⟨rfl, _⟩
        · simp at hu; simp [← hu, he]
        · simp at hu; simp [h1, ← hu, he]
        · omega
      refine AT.skip ?_
      refine AT.region ?_   -- region 7 cmp.go:71
      refine TrC.take rfl (step_addI rfl rfl rfl (by omega) (by omega) rfl) ?_   -- 0
      refine TrC.take rfl (step_move rfl rfl rfl) ?_   -- 1
      refine TrC.done ?_
      exact ⟨ix + 1, hnx, by show 2 - (ix + 1) < 2 - ix; omega, Sat.wk [] (.cons (.t (.refl _)) (.cons (.t (.refl _)) (.cons (.t (.refl _)) (.cons (.t (conv_i (by simp))) (.nil))))) .nil rfl rfl⟩
  · -- false
    have hge : ¬ (ix : Int) < 2 := by simpa using h9
    have hr : (if a ≠ 0 then a else b) = 0 := by rcases hix with rfl | ⟨rfl, _⟩ | ⟨_, h1, h2⟩ <;> first | omega | simp [h1, h2]
    refine AT.exit (Or.inl ⟨rfl, ?_⟩)   -- exit 0
    refine AT.seq ?_
    refine AT.region ?_   -- region 8 cmp.go:76
    refine TrC.take rfl (step_move rfl rfl rfl) ?_   -- 0
    refine TrC.take rfl (step_assign rfl rfl rfl) ?_   -- 1
    refine TrC.done ?_
    refine AT.ret ?_
    exact Ret.one rfl (ResR.tmp rfl (conv_i (by rw [hr])))

theorem C36 (x y : Int × Int) : Has Try.prog 36 [encC x, encC y] (.i (order x y)) := by   -- burgage/net.order
  refine Has.intro 17 Try.func36 (by kernel_rfl) rfl rfl fun w ok => ?_
  refine AT.seq ?_
  refine AT.region ?_   -- region 0 net.go:23
  refine TrC.take rfl (step_box rfl rfl rfl rfl rfl rfl rfl) ?_   -- 0
  refine TrC.take rfl (step_box rfl rfl rfl rfl rfl rfl rfl) ?_   -- 1
  refine TrC.take rfl (step_assign rfl rfl rfl) ?_   -- 2
  refine TrC.done ?_
  refine AT.seq ?_
  refine AT.regionD mixed rfl ?_   -- region 1 net.go:23
  refine TrC.take rfl (step_indexAddrP rfl rfl rfl ar32 (by decide) (by decide) rfl) ?_   -- 0
  refine TrC.take rfl (step_loadP1 rfl rfl rfl ty3 rfl rfl) ?_   -- 1
  refine TrC.take rfl (step_indexAddrP rfl rfl rfl ar32 (by decide) (by decide) rfl) ?_   -- 2
  refine TrC.take rfl (step_loadP1 rfl rfl rfl ty3 rfl rfl) ?_   -- 3
  refine TrC.take rfl (step_call0 rfl rfl (C48 x.1 y.1) rfl) ?_   -- 4
  refine TrC.take rfl (step_indexAddrP rfl rfl rfl ar32 (by decide) (by decide) rfl) ?_   -- 5
  refine TrC.take rfl (step_loadP1 rfl rfl rfl ty3 rfl rfl) ?_   -- 6
  refine TrC.take rfl (step_indexAddrP rfl rfl rfl ar32 (by decide) (by decide) rfl) ?_   -- 7
  refine TrC.take rfl (step_loadP1 rfl rfl rfl ty3 rfl rfl) ?_   -- 8
  refine TrC.take rfl (step_call0 rfl rfl (C48 x.2 y.2) rfl) ?_   -- 9
  refine TrC.take rfl (step_buildSliceT rfl sl88 ze3 rfl rfl rfl rfl rfl rfl rfl rfl rfl rfl rfl rfl) ?_   -- 10
  refine TrC.take rfl (step_call0 rfl rfl (C47 (cmpI x.1 y.1) (cmpI x.2 y.2)) rfl) ?_   -- 11
  refine TrC.take rfl (step_assign rfl rfl rfl) ?_   -- 12
  refine TrC.doneD rfl ?_
  refine AT.ret ?_
  exact Ret.one rfl (ResR.tmp rfl (.refl _))

theorem C33 (n : Net) (i : Nat) (hi : i < n.fl.length) (hl : n.fl.length ≤ 1000000) : Has Try.prog 33 [encN n, .i i] (encN (without n i)) := by   -- burgage/burgageref32.without
  refine Has.intro 24 Try.func33 (by kernel_rfl) rfl rfl fun w ok => ?_
  refine AT.seq ?_
  refine AT.region ?_   -- region 0 ref.go:82
  refine TrC.take rfl (step_box rfl rfl rfl rfl rfl rfl rfl) ?_   -- 0
  refine TrC.take rfl (step_allocC rfl rfl ze30 zc30 rfl rfl rfl) ?_   -- 1
  refine TrC.done ?_
  refine AT.seq ?_
  refine AT.region ?_   -- region 1 ref.go:83
  refine TrC.take rfl (step_buildSliceH rfl rfl sl27 ze25 rfl rfl rfl rfl rfl rfl rfl rfl rfl rfl rfl rfl rfl) ?_   -- 0
  refine TrC.take rfl (step_fieldAddrP rfl rfl fd30_0 rfl rfl) ?_   -- 1
  refine TrC.take rfl (step_loadP1 rfl rfl rfl ty27 rfl rfl) ?_   -- 2
  refine TrC.take rfl (step_move rfl rfl rfl) ?_   -- 3
  refine TrC.take rfl (step_sliceT rfl rfl rfl rfl sl27 (by first | (simp; done) | (simp; omega) | omega) (by first | (simp; done) | (simp; omega) | omega) (by first | (simp; done) | (simp; omega) | omega) rfl) ?_   -- 4
  refine TrC.take rfl (step_append rfl rfl rfl rfl rfl (.refl _) sl27 ze25 rfl rfl rfl (by first | (simp; done) | (simp; omega) | omega) rfl rfl) ?_   -- 5
  refine TrC.take rfl (step_assign rfl rfl rfl) ?_   -- 6
  refine TrC.done ?_
  refine AT.seq ?_
  refine AT.regionD mixed rfl ?_   -- region 2 ref.go:84
  refine TrC.take rfl (step_move rfl rfl rfl) ?_   -- 0
  refine TrC.take rfl (step_fieldAddrP rfl rfl fd30_0 rfl rfl) ?_   -- 1
  refine TrC.take rfl (step_loadP1 rfl rfl rfl ty27 rfl rfl) ?_   -- 2
  refine TrC.take rfl (step_move rfl rfl rfl) ?_   -- 3
  refine TrC.take rfl (step_addI rfl rfl rfl (by omega) (by omega) rfl) ?_   -- 4
  refine TrC.take rfl (step_sliceT rfl rfl rfl rfl sl27 (by first | (simp; done) | (simp; omega) | omega) (by first | (simp; done) | (simp; omega) | omega) (by first | (simp; done) | (simp; omega) | omega) rfl) ?_   -- 5
  refine TrC.take rfl (Step.toT (step_append rfl rfl rfl rfl rfl (.refl _) sl27 ze25 rfl rfl rfl (by first | (simp; done) | (simp; omega) | omega) rfl rfl) rfl) ?_   -- 6
  refine TrC.take rfl (step_fieldAddrP rfl rfl fd30_1 rfl rfl) ?_   -- 7
  refine TrC.take rfl (step_loadP1 rfl rfl rfl ty28 rfl rfl) ?_   -- 8
  refine TrC.take rfl (step_fieldAddrP rfl rfl fd30_2 rfl rfl) ?_   -- 9
  refine TrC.take rfl (step_loadP1 rfl rfl rfl ty3 rfl rfl) ?_   -- 10
  refine TrC.take rfl (step_buildC rfl ze30 zc30 rfl pl30 rfl rfl rfl rfl) ?_   -- 11
  refine TrC.take rfl (step_storeP rfl rfl rfl rfl rfl (.inl rfl) ty30 rfl rfl rfl) ?_   -- 12
  refine TrC.doneD rfl ?_
  refine AT.ret ?_
  exact Ret.one rfl (ResR.cellN rfl rfl ty30 rfl rfl (conv_eq (by simp [encN, without, List.map_take, List.map_drop, List.take_of_length_le])))

end Go.Proofs.Ytnemmdbafngppaa.Net

/- Contracts of functions of this translation. Printed by wip/tools/gen.py out of wip/net/ann.py. No condition. -/
set_option linter.unusedVariables false
set_option linter.unusedSimpArgs false
namespace Go.Proofs.Ytnemmdbafngppaa.Net
open Go.Proofs.Ytnemmdbafngppaa.Abs
set_option maxRecDepth 100000
set_option maxHeartbeats 4000000
theorem C14 (n : Net) (a b : Int) (hl : n.fl.length ≤ 1000000) (h0 : -1000000000000 ≤ n.next) : Has Try.prog 14 [encN n, .i a, .i b] (encSent (send n a b)) := by   -- burgage/burgageref32.Send
  refine Has.intro 46 Try.func14 (by kernel_rfl) rfl rfl fun w ok => ?_
  refine AT.seq ?_
  refine AT.region ?_   -- region 0 ref.go:53
  refine TrC.take rfl (step_box rfl rfl rfl rfl rfl rfl rfl) ?_   -- 0
  refine TrC.take rfl (step_allocC rfl rfl ze35 zc35 rfl rfl rfl) ?_   -- 1
  refine TrC.done ?_
  refine AT.seq ?_
  refine AT.seq ?_
  refine AT.region ?_   -- region 1 ref.go:54
  refine TrC.take rfl (step_move rfl rfl rfl) ?_   -- 0
  refine TrC.take rfl (step_move rfl rfl rfl) ?_   -- 1
  refine TrC.take rfl (step_call0 rfl rfl (C30 a b) rfl) ?_   -- 2
  refine TrC.take rfl (step_not rfl rfl rfl) ?_   -- 3
  refine TrC.done ?_
  refine AT.cond rfl (fun h11 => ?_) (fun h11 => ?_)   -- t11
  · -- true
    refine AT.seq ?_
    refine AT.region ?_   -- region 2 ref.go:55
    refine TrC.take rfl (step_loadPN rfl rfl rfl ty30 rfl rfl rfl) ?_   -- 0
    refine TrC.take rfl (step_buildC rfl ze35 zc35 rfl pl35 rfl rfl rfl rfl) ?_   -- 1
    refine TrC.take rfl (step_storeP rfl rfl rfl rfl rfl (.inl rfl) ty35 rfl rfl rfl) ?_   -- 2
    refine TrC.done ?_
    refine AT.ret ?_
    exact Ret.one rfl (ResR.cellN rfl rfl ty35 rfl rfl (conv_eq (by first | (simp_all [encSent, send, encP]; done) | (simp_all [encSent, send, encP] <;> omega))))
  · -- false
    refine AT.skip ?_
    refine AT.seq ?_
    refine AT.seq ?_
    refine AT.region ?_   -- region 3 ref.go:57
    refine TrC.take rfl (step_fieldAddrP rfl rfl fd30_0 rfl rfl) ?_   -- 0
    refine TrC.take rfl (step_loadP1 rfl rfl rfl ty27 rfl rfl) ?_   -- 1
    refine TrC.take rfl (step_lenT (rt := 0) rfl rfl sl27 rfl) ?_   -- 2
    refine TrC.take rfl (step_bin rfl rfl rfl rfl rfl) ?_   -- 3
    refine TrC.take rfl (step_move rfl rfl rfl) ?_   -- 4
    refine TrC.cases (d := 18) rfl (fun h18 => ?_) (fun h18 => ?_)
    · -- t18 = true
      refine TrC.skip ⟨_, _, rfl, rfl, rfl⟩ ?_   -- 5
      refine TrC.skip ⟨_, _, rfl, rfl, rfl⟩ ?_   -- 6
      refine TrC.skip ⟨_, _, rfl, rfl, rfl⟩ ?_   -- 7
      refine TrC.take rfl (step_pick rfl rfl rfl rfl) ?_   -- 8
      refine TrC.done ?_
      refine AT.condT rfl ?_   -- t22
      refine AT.seq ?_
      have hb : 200 ≤ n.fl.length ∨ 1000000000 ≤ n.next := by first | (have h := h22; simp at h; omega) | (have h := h18; simp at h; omega)
      refine AT.region ?_   -- region 4 ref.go:58
      refine TrC.take rfl (step_loadPN rfl rfl rfl ty30 rfl rfl rfl) ?_   -- 0
      refine TrC.take rfl (step_buildC rfl ze35 zc35 rfl pl35 rfl rfl rfl rfl) ?_   -- 1
      refine TrC.take rfl (step_storeP rfl rfl rfl rfl rfl (.inl rfl) ty35 rfl rfl rfl) ?_   -- 2
      refine TrC.done ?_
      refine AT.ret ?_
      exact Ret.one rfl (ResR.cellN rfl rfl ty35 rfl rfl (conv_eq (by first | (simp_all [encSent, send, encP]; done) | (simp_all [encSent, send, encP] <;> omega))))
    · -- t18 = false
      refine TrC.take ⟨_, _, rfl, rfl, rfl⟩ (step_fieldAddrP rfl rfl fd30_2 rfl rfl) ?_   -- 5
      refine TrC.take ⟨_, _, rfl, rfl, rfl⟩ (step_loadP1 rfl rfl rfl ty3 rfl rfl) ?_   -- 6
      refine TrC.take ⟨_, _, rfl, rfl, rfl⟩ (step_bin rfl rfl rfl rfl rfl) ?_   -- 7
      refine TrC.take rfl (step_pick rfl rfl rfl rfl) ?_   -- 8
      refine TrC.done ?_
      refine AT.cond rfl (fun h22 => ?_) (fun h22 => ?_)   -- t22
      · -- true
        refine AT.seq ?_
        have hb : 200 ≤ n.fl.length ∨ 1000000000 ≤ n.next := by first | (have h := h22; simp at h; omega) | (have h := h18; simp at h; omega)
        refine AT.region ?_   -- region 4 ref.go:58
        refine TrC.take rfl (step_loadPN rfl rfl rfl ty30 rfl rfl rfl) ?_   -- 0
        refine TrC.take rfl (step_buildC rfl ze35 zc35 rfl pl35 rfl rfl rfl rfl) ?_   -- 1
        refine TrC.take rfl (step_storeP rfl rfl rfl rfl rfl (.inl rfl) ty35 rfl rfl rfl) ?_   -- 2
        refine TrC.done ?_
        refine AT.ret ?_
        exact Ret.one rfl (ResR.cellN rfl rfl ty35 rfl rfl (conv_eq (by first | (simp_all [encSent, send, encP]; done) | (simp_all [encSent, send, encP] <;> omega))))
      · -- false
        have hlt : n.next < 1000000000 := by simpa using h22
        refine AT.skip ?_
        refine AT.seq ?_
        have hb : ¬ (200 ≤ n.fl.length ∨ 1000000000 ≤ n.next) := by have h := h18; simp at h; omega
        have hs : send n a b = ⟨⟨n.fl ++ [⟨n.next, a, b⟩], n.cuts, n.next + 1⟩, n.next, 0⟩ := by unfold send; rw [if_pos (by simpa using h11), if_neg hb]
        refine AT.regionD mixed rfl ?_   -- region 5 ref.go:60
        refine TrC.take rfl (step_buildSliceH rfl rfl sl27 ze25 rfl rfl rfl rfl rfl rfl rfl rfl rfl rfl rfl rfl rfl) ?_   -- 0
        refine TrC.take rfl (step_fieldAddrP rfl rfl fd30_0 rfl rfl) ?_   -- 1
        refine TrC.take rfl (step_loadP1 rfl rfl rfl ty27 rfl rfl) ?_   -- 2
        refine TrC.take rfl (step_append rfl rfl rfl rfl rfl (.refl _) sl27 ze25 rfl rfl rfl (by first | (simp; done) | (simp; omega) | omega) rfl rfl) ?_   -- 3
        refine TrC.take rfl (step_fieldAddrP rfl rfl fd30_2 rfl rfl) ?_   -- 4
        refine TrC.take rfl (step_loadP1 rfl rfl rfl ty3 rfl rfl) ?_   -- 5
        refine TrC.take rfl (step_move rfl rfl rfl) ?_   -- 6
        refine TrC.take rfl (step_move rfl rfl rfl) ?_   -- 7
        refine TrC.take rfl (step_buildS rfl ze25 rfl pl25 rfl rfl rfl rfl) ?_   -- 8
        refine TrC.take rfl (step_buildSliceT rfl sl27 ze25 rfl rfl rfl rfl rfl rfl rfl rfl rfl rfl rfl rfl) ?_   -- 9
        refine TrC.take rfl (Step.toT (step_append rfl rfl rfl rfl rfl (.refl _) sl27 ze25 rfl rfl rfl (by first | (simp; done) | (simp; omega) | omega) rfl rfl) rfl) ?_   -- 10
        refine TrC.take rfl (step_assign rfl rfl rfl) ?_   -- 11
        refine TrC.doneD rfl ?_
        refine AT.seq ?_
        refine AT.region ?_   -- region 6 ref.go:61
        refine TrC.take rfl (step_move rfl rfl rfl) ?_   -- 0
        refine TrC.take rfl (step_fieldAddrP rfl rfl fd30_1 rfl rfl) ?_   -- 1
        refine TrC.take rfl (step_loadP1 rfl rfl rfl ty28 rfl rfl) ?_   -- 2
        refine TrC.take rfl (step_fieldAddrP rfl rfl fd30_2 rfl rfl) ?_   -- 3
        refine TrC.take rfl (step_loadP1 rfl rfl rfl ty3 rfl rfl) ?_   -- 4
        refine TrC.take rfl (step_addI rfl rfl rfl (by omega) (by omega) rfl) ?_   -- 5
        refine TrC.take rfl (step_buildC rfl ze30 zc30 rfl pl30 rfl rfl rfl rfl) ?_   -- 6
        refine TrC.take rfl (step_fieldAddrP rfl rfl fd30_2 rfl rfl) ?_   -- 7
        refine TrC.take rfl (step_loadP1 rfl rfl rfl ty3 rfl rfl) ?_   -- 8
        refine TrC.take rfl (step_buildC rfl ze35 zc35 rfl pl35 rfl rfl rfl rfl) ?_   -- 9
        refine TrC.take rfl (step_storeP rfl rfl rfl rfl rfl (.inl rfl) ty35 rfl rfl rfl) ?_   -- 10
        refine TrC.done ?_
        refine AT.ret ?_
        exact Ret.one rfl (ResR.cellN rfl rfl ty35 rfl rfl (conv_eq (by simp [encSent, hs, encP])))

theorem C22 (n : Net) (id : Int) (hl : n.fl.length ≤ 1000000) : Has Try.prog 22 [encN n, .i id] (encTaken (lose n id)) := by   -- burgage/burgageref32.Lose
  refine Has.intro 17 Try.func22 (by kernel_rfl) rfl rfl fun w ok => ?_
  refine AT.seq ?_
  refine AT.region ?_   -- region 0 ref.go:101
  refine TrC.take rfl (step_box rfl rfl rfl rfl rfl rfl rfl) ?_   -- 0
  refine TrC.take rfl (step_allocC rfl rfl ze40 zc40 rfl rfl rfl) ?_   -- 1
  refine TrC.done ?_
  refine AT.seq ?_
  refine AT.region ?_   -- region 1 ref.go:102
  refine TrC.take rfl (step_loadPN rfl rfl rfl ty30 rfl rfl rfl) ?_   -- 0
  refine TrC.take rfl (step_move rfl rfl rfl) ?_   -- 1
  refine TrC.take rfl (step_call0 rfl rfl (C32 n id hl) rfl) ?_   -- 2
  refine TrC.take rfl (step_assign rfl rfl rfl) ?_   -- 3
  refine TrC.done ?_
  refine AT.seq ?_
  refine AT.seq ?_
  refine AT.region ?_   -- region 2 ref.go:103
  refine TrC.take rfl (step_move rfl rfl rfl) ?_   -- 0
  refine TrC.take rfl (step_bin rfl rfl rfl rfl rfl) ?_   -- 1
  refine TrC.done ?_
  refine AT.cond rfl (fun h10 => ?_) (fun h10 => ?_)   -- t10
  · -- true
    have hn : findIx n id = none := ix_neg (by simpa using h10)
    refine AT.seq ?_
    refine AT.region ?_   -- region 3 ref.go:104
    refine TrC.take rfl (step_loadPN rfl rfl rfl ty30 rfl rfl rfl) ?_   -- 0
    refine TrC.take rfl (step_buildC rfl ze40 zc40 rfl pl40 rfl rfl rfl rfl) ?_   -- 1
    refine TrC.take rfl (step_storeP rfl rfl rfl rfl rfl (.inl rfl) ty40 rfl rfl rfl) ?_   -- 2
    refine TrC.done ?_
    refine AT.ret ?_
    exact Ret.one rfl (ResR.cellN rfl rfl ty40 rfl rfl (conv_eq (by first | (simp_all [encTaken, lose, p0, encN, without]; done) | (simp_all [encTaken, lose, p0, encN, without] <;> omega))))
  · -- false
    obtain ⟨i, hf, hi⟩ := find_pos (by simpa using h10)
    refine AT.spell 5 rfl (show T.v (.int .i64 (ixI (findIx n id))) = .v (.int .i64 i) by rw [hf]; rfl) ?_
    refine AT.skip ?_
    refine AT.seq ?_
    refine AT.region ?_   -- region 4 ref.go:106
    refine TrC.take rfl (step_loadPN rfl rfl rfl ty30 rfl rfl rfl) ?_   -- 0
    refine TrC.take rfl (step_move rfl rfl rfl) ?_   -- 1
    refine TrC.take rfl (step_call0 rfl rfl (C33 n i hi hl) rfl) ?_   -- 2
    refine TrC.take rfl (step_buildC rfl ze40 zc40 rfl pl40 rfl rfl rfl rfl) ?_   -- 3
    refine TrC.take rfl (step_storeP rfl rfl rfl rfl rfl (.inl rfl) ty40 rfl rfl rfl) ?_   -- 4
    refine TrC.done ?_
    refine AT.ret ?_
    exact Ret.one rfl (ResR.cellN rfl rfl ty40 rfl rfl (conv_eq (by first | (simp_all [encTaken, lose, p0, encN, without]; done) | (simp_all [encTaken, lose, p0, encN, without] <;> omega))))

theorem C18 (n : Net) (id : Int) (hl : n.fl.length ≤ 1000000) (hc : n.cuts.length ≤ 1000000) : Has Try.prog 18 [encN n, .i id] (encTaken (take n id)) := by   -- burgage/burgageref32.Take
  refine Has.intro 33 Try.func18 (by kernel_rfl) rfl rfl fun w ok => ?_
  refine AT.seq ?_
  refine AT.region ?_   -- region 0 ref.go:88
  refine TrC.take rfl (step_box rfl rfl rfl rfl rfl rfl rfl) ?_   -- 0
  refine TrC.take rfl (step_allocC rfl rfl ze40 zc40 rfl rfl rfl) ?_   -- 1
  refine TrC.done ?_
  refine AT.seq ?_
  refine AT.region ?_   -- region 1 ref.go:89
  refine TrC.take rfl (step_loadPN rfl rfl rfl ty30 rfl rfl rfl) ?_   -- 0
  refine TrC.take rfl (step_move rfl rfl rfl) ?_   -- 1
  refine TrC.take rfl (step_call0 rfl rfl (C32 n id hl) rfl) ?_   -- 2
  refine TrC.take rfl (step_assign rfl rfl rfl) ?_   -- 3
  refine TrC.done ?_
  refine AT.seq ?_
  refine AT.seq ?_
  refine AT.region ?_   -- region 2 ref.go:90
  refine TrC.take rfl (step_move rfl rfl rfl) ?_   -- 0
  refine TrC.take rfl (step_bin rfl rfl rfl rfl rfl) ?_   -- 1
  refine TrC.done ?_
  refine AT.cond rfl (fun h11 => ?_) (fun h11 => ?_)   -- t11
  · -- true
    have hn : findIx n id = none := ix_neg (by simpa using h11)
    refine AT.seq ?_
    refine AT.region ?_   -- region 3 ref.go:91
    refine TrC.take rfl (step_loadPN rfl rfl rfl ty30 rfl rfl rfl) ?_   -- 0
    refine TrC.take rfl (step_buildC rfl ze40 zc40 rfl pl40 rfl rfl rfl rfl) ?_   -- 1
    refine TrC.take rfl (step_storeP rfl rfl rfl rfl rfl (.inl rfl) ty40 rfl rfl rfl) ?_   -- 2
    refine TrC.done ?_
    refine AT.ret ?_
    exact Ret.one rfl (ResR.cellN rfl rfl ty40 rfl rfl (conv_eq (by first | (simp_all [encTaken, take, p0, encN, without]; done) | (simp_all [encTaken, take, p0, encN, without] <;> omega))))
  · -- false
    obtain ⟨i, hf, hi⟩ := find_pos (by simpa using h11)
    refine AT.spell 5 rfl (show T.v (.int .i64 (ixI (findIx n id))) = .v (.int .i64 i) by rw [hf]; rfl) ?_
    have hget : (n.fl.map encP)[i]? = some (.agg [.i n.fl[i].id, .i n.fl[i].fr, .i n.fl[i].to]) := by simp [hi, encP]
    refine AT.skip ?_
    refine AT.seq ?_
    refine AT.region ?_   -- region 4 ref.go:93
    refine TrC.take rfl (step_fieldAddrP rfl rfl fd30_0 rfl rfl) ?_   -- 0
    refine TrC.take rfl (step_loadP1 rfl rfl rfl ty27 rfl rfl) ?_   -- 1
    refine TrC.take rfl (step_move rfl rfl rfl) ?_   -- 2
    refine TrC.take rfl (step_indexAddrT (v := .agg [.i n.fl[i].id, .i n.fl[i].fr, .i n.fl[i].to]) rfl rfl rfl sl27 (by omega) (by simpa using hget) rfl rfl) ?_   -- 3
    refine TrC.take rfl (step_loadTN rfl rfl ty25 rfl rfl) ?_   -- 4
    refine TrC.take rfl (step_alloc rfl rfl ze25 rfl rfl rfl) ?_   -- 5
    refine TrC.take rfl (step_storeP rfl rfl rfl rfl rfl (.inl rfl) ty25 rfl rfl rfl) ?_   -- 6
    refine TrC.done ?_
    refine AT.seq ?_
    refine AT.seq ?_
    refine AT.region ?_   -- region 5 ref.go:94
    refine TrC.take rfl (step_loadPN rfl rfl rfl ty30 rfl rfl rfl) ?_   -- 0
    refine TrC.take rfl (step_fieldAddrP rfl rfl fd25_1 rfl rfl) ?_   -- 1
    refine TrC.take rfl (step_loadP1 rfl rfl rfl ty3 rfl rfl) ?_   -- 2
    refine TrC.take rfl (step_fieldAddrP rfl rfl fd25_2 rfl rfl) ?_   -- 3
    refine TrC.take rfl (step_loadP1 rfl rfl rfl ty3 rfl rfl) ?_   -- 4
    refine TrC.take rfl (step_call0 rfl rfl (C20 n n.fl[i].fr n.fl[i].to hc) rfl) ?_   -- 5
    refine TrC.take rfl (step_not rfl rfl rfl) ?_   -- 6
    refine TrC.done ?_
    refine AT.cond rfl (fun h25 => ?_) (fun h25 => ?_)   -- t25
    · -- true
      refine AT.seq ?_
      refine AT.region ?_   -- region 6 ref.go:95
      refine TrC.take rfl (step_loadPN rfl rfl rfl ty30 rfl rfl rfl) ?_   -- 0
      refine TrC.take rfl (step_buildC rfl ze40 zc40 rfl pl40 rfl rfl rfl rfl) ?_   -- 1
      refine TrC.take rfl (step_storeP rfl rfl rfl rfl rfl (.inl rfl) ty40 rfl rfl rfl) ?_   -- 2
      refine TrC.done ?_
      refine AT.ret ?_
      exact Ret.one rfl (ResR.cellN rfl rfl ty40 rfl rfl (conv_eq (by first | (simp_all [encTaken, take, p0, encN, without]; done) | (simp_all [encTaken, take, p0, encN, without] <;> omega))))
    · -- false
      refine AT.skip ?_
      refine AT.seq ?_
      refine AT.regionD mixed rfl ?_   -- region 7 ref.go:97
      refine TrC.take rfl (step_loadPN rfl rfl rfl ty30 rfl rfl rfl) ?_   -- 0
      refine TrC.take rfl (step_move rfl rfl rfl) ?_   -- 1
      refine TrC.take rfl (step_call0 rfl rfl (C33 n i hi hl) rfl) ?_   -- 2
      refine TrC.take rfl (step_loadPN rfl rfl rfl ty25 rfl rfl rfl) ?_   -- 3
      refine TrC.take rfl (step_buildC rfl ze40 zc40 rfl pl40 rfl rfl rfl rfl) ?_   -- 4
      refine TrC.take rfl (step_storeP rfl rfl rfl rfl rfl (.inl rfl) ty40 rfl rfl rfl) ?_   -- 5
      refine TrC.doneD rfl ?_
      refine AT.ret ?_
      exact Ret.one rfl (ResR.cellN rfl rfl ty40 rfl rfl (conv_eq (by first | (simp_all [encTaken, take, p0, encN, without]; done) | (simp_all [encTaken, take, p0, encN, without] <;> omega))))

theorem C23 (n : Net) (id : Int) (hl : n.fl.length ≤ 1000000) (h0 : -1000000000000 ≤ n.next) : Has Try.prog 23 [encN n, .i id] (encTaken (double n id)) := by   -- burgage/burgageref32.Double
  refine Has.intro 33 Try.func23 (by kernel_rfl) rfl rfl fun w ok => ?_
  refine AT.seq ?_
  refine AT.region ?_   -- region 0 ref.go:110
  refine TrC.take rfl (step_box rfl rfl rfl rfl rfl rfl rfl) ?_   -- 0
  refine TrC.take rfl (step_allocC rfl rfl ze40 zc40 rfl rfl rfl) ?_   -- 1
  refine TrC.done ?_
  refine AT.seq ?_
  refine AT.region ?_   -- region 1 ref.go:111
  refine TrC.take rfl (step_loadPN rfl rfl rfl ty30 rfl rfl rfl) ?_   -- 0
  refine TrC.take rfl (step_move rfl rfl rfl) ?_   -- 1
  refine TrC.take rfl (step_call0 rfl rfl (C32 n id hl) rfl) ?_   -- 2
  refine TrC.take rfl (step_assign rfl rfl rfl) ?_   -- 3
  refine TrC.done ?_
  refine AT.seq ?_
  refine AT.seq ?_
  refine AT.region ?_   -- region 2 ref.go:112
  refine TrC.take rfl (step_move rfl rfl rfl) ?_   -- 0
  refine TrC.take rfl (step_bin rfl rfl rfl rfl rfl) ?_   -- 1
  refine TrC.done ?_
  refine AT.cond rfl (fun h11 => ?_) (fun h11 => ?_)   -- t11
  · -- true
    have hn : findIx n id = none := ix_neg (by simpa using h11)
    refine AT.seq ?_
    refine AT.region ?_   -- region 3 ref.go:113
    refine TrC.take rfl (step_loadPN rfl rfl rfl ty30 rfl rfl rfl) ?_   -- 0
    refine TrC.take rfl (step_buildC rfl ze40 zc40 rfl pl40 rfl rfl rfl rfl) ?_   -- 1
    refine TrC.take rfl (step_storeP rfl rfl rfl rfl rfl (.inl rfl) ty40 rfl rfl rfl) ?_   -- 2
    refine TrC.done ?_
    refine AT.ret ?_
    exact Ret.one rfl (ResR.cellN rfl rfl ty40 rfl rfl (conv_eq (by first | (simp_all [encTaken, double, p0, encSent]; done) | (simp_all [encTaken, double, p0, encSent] <;> omega))))
  · -- false
    obtain ⟨i, hf, hi⟩ := find_pos (by simpa using h11)
    refine AT.spell 5 rfl (show T.v (.int .i64 (ixI (findIx n id))) = .v (.int .i64 i) by rw [hf]; rfl) ?_
    have hget : (n.fl.map encP)[i]? = some (.agg [.i n.fl[i].id, .i n.fl[i].fr, .i n.fl[i].to]) := by simp [hi, encP]
    refine AT.skip ?_
    refine AT.seq ?_
    refine AT.regionD mixed rfl ?_   -- region 4 ref.go:115
    refine TrC.take rfl (step_loadPN rfl rfl rfl ty30 rfl rfl rfl) ?_   -- 0
    refine TrC.take rfl (step_fieldAddrP rfl rfl fd30_0 rfl rfl) ?_   -- 1
    refine TrC.take rfl (step_loadP1 rfl rfl rfl ty27 rfl rfl) ?_   -- 2
    refine TrC.take rfl (step_move rfl rfl rfl) ?_   -- 3
    refine TrC.take rfl (step_indexAddrT (v := .agg [.i n.fl[i].id, .i n.fl[i].fr, .i n.fl[i].to]) rfl rfl rfl sl27 (by omega) (by simpa using hget) rfl rfl) ?_   -- 4
    refine TrC.take rfl (step_fieldAddrT rfl rfl fd25_1 rfl rfl rfl) ?_   -- 5
    refine TrC.take rfl (step_loadT1 rfl rfl ty3 rfl rfl) ?_   -- 6
    refine TrC.take rfl (step_fieldAddrP rfl rfl fd30_0 rfl rfl) ?_   -- 7
    refine TrC.take rfl (step_loadP1 rfl rfl rfl ty27 rfl rfl) ?_   -- 8
    refine TrC.take rfl (step_move rfl rfl rfl) ?_   -- 9
    refine TrC.take rfl (step_indexAddrT (v := .agg [.i n.fl[i].id, .i n.fl[i].fr, .i n.fl[i].to]) rfl rfl rfl sl27 (by omega) (by simpa using hget) rfl rfl) ?_   -- 10
    refine TrC.take rfl (step_fieldAddrT rfl rfl fd25_2 rfl rfl rfl) ?_   -- 11
    refine TrC.take rfl (step_loadT1 rfl rfl ty3 rfl rfl) ?_   -- 12
    refine TrC.take rfl (step_call0 rfl rfl (C14 n n.fl[i].fr n.fl[i].to hl h0) rfl) ?_   -- 13
    refine TrC.take rfl (step_allocC rfl rfl ze35 zc35 rfl rfl rfl) ?_   -- 14
    refine TrC.take rfl (step_storeP rfl rfl rfl rfl rfl (.inl rfl) ty35 rfl rfl rfl) ?_   -- 15
    refine TrC.doneD rfl ?_
    refine AT.seq ?_
    refine AT.region ?_   -- region 5 ref.go:116
    refine TrC.take rfl (step_fieldAddrP rfl rfl fd35_0 rfl rfl) ?_   -- 0
    refine TrC.take rfl (step_loadPN rfl rfl rfl ty30 rfl rfl rfl) ?_   -- 1
    refine TrC.take rfl (step_fieldAddrP rfl rfl fd35_2 rfl rfl) ?_   -- 2
    refine TrC.take rfl (step_loadP1 rfl rfl rfl ty33 rfl rfl) ?_   -- 3
    refine TrC.take rfl (step_buildC rfl ze40 zc40 rfl pl40 rfl rfl rfl rfl) ?_   -- 4
    refine TrC.take rfl (step_storeP rfl rfl rfl rfl rfl (.inl rfl) ty40 rfl rfl rfl) ?_   -- 5
    refine TrC.done ?_
    refine AT.ret ?_
    exact Ret.one rfl (ResR.cellN rfl rfl ty40 rfl rfl (conv_eq (by first | (simp_all [encTaken, double, p0, encSent]; done) | (simp_all [encTaken, double, p0, encSent] <;> omega))))

end Go.Proofs.Ytnemmdbafngppaa.Net

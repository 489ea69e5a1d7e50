/- Parts of this proof, one after the other; each says what it proves. No condition. -/
import Derived.Test.YtgblfhobiibeaaaMC
import Derived.Test.YtgblfhobiibeaaaProg
/- The closed facts on the types of this translation. Printed by wip/tools/gen.py. No condition. -/
set_option linter.unusedVariables false
namespace Go.Proofs.Ytgblfhobiibeaaa.Acl
open Go.Proofs.Ytgblfhobiibeaaa.Abs
set_option maxRecDepth 100000
theorem mixed : Try.prog.follows .mixedOrders = true := by kernel_rfl
theorem ty1 : tyB Try.prog 1 = some (false, 1) := by kernel_rfl
theorem ze1 : zeroB Try.prog 1 = some [.nilFunc] := by kernel_rfl
theorem ty2 : tyB Try.prog 2 = some (false, 1) := by kernel_rfl
theorem ze2 : zeroB Try.prog 2 = some [.int .i64 0] := by kernel_rfl
theorem in2 : intB Try.prog 2 = some .i64 := by kernel_rfl
theorem ty3 : tyB Try.prog 3 = some (false, 1) := by kernel_rfl
theorem ze3 : zeroB Try.prog 3 = some [.int .i64 0] := by kernel_rfl
theorem in3 : intB Try.prog 3 = some .i64 := by kernel_rfl
theorem ty4 : tyB Try.prog 4 = some (false, 1) := by kernel_rfl
theorem ze4 : zeroB Try.prog 4 = some [.bool false] := by kernel_rfl
theorem bo4 : Try.prog.underlying 4 = some .bool := by kernel_rfl
theorem ty5 : tyB Try.prog 5 = some (false, 1) := by kernel_rfl
theorem ze5 : zeroB Try.prog 5 = some [.int .u8 0] := by kernel_rfl
theorem in5 : intB Try.prog 5 = some .u8 := by kernel_rfl
theorem ty6 : tyB Try.prog 6 = some (false, 1) := by kernel_rfl
theorem ze6 : zeroB Try.prog 6 = some [.int .u8 0] := by kernel_rfl
theorem in6 : intB Try.prog 6 = some .u8 := by kernel_rfl
theorem ty7 : tyB Try.prog 7 = some (true, 4) := by kernel_rfl
theorem ze7 : zeroB Try.prog 7 = some [.int .i64 0, .int .i64 0, .bool false, .int .u8 0] := by kernel_rfl
theorem fd7_0 : fdB Try.prog 7 0 = some (0, 2, 1) := by kernel_rfl
theorem fd7_1 : fdB Try.prog 7 1 = some (1, 3, 1) := by kernel_rfl
theorem fd7_2 : fdB Try.prog 7 2 = some (2, 4, 1) := by kernel_rfl
theorem fd7_3 : fdB Try.prog 7 3 = some (3, 6, 1) := by kernel_rfl
theorem pl7 : plB Try.prog 7 = some [(0, 1), (1, 1), (2, 1), (3, 1)] := by kernel_rfl
theorem eg7 : Try.prog.eqGuardType Try.prog.depth 7 = false := by kernel_rfl
theorem eq7 (a0 b0 : Int) (a1 b1 : Int) (a2 b2 : Bool) (a3 b3 : Int) : eqP Try.prog 10000 7 [.int .i64 a0, .int .i64 a1, .bool a2, .int .u8 a3] [.int .i64 b0, .int .i64 b1, .bool b2, .int .u8 b3] = some ((a0 == b0) && ((a1 == b1) && ((a2 == b2) && ((a3 == b3) && true)))) := by kernel_rfl
theorem ty8 : tyB Try.prog 8 = some (true, 4) := by kernel_rfl
theorem ze8 : zeroB Try.prog 8 = some [.int .i64 0, .int .i64 0, .bool false, .int .u8 0] := by kernel_rfl
theorem fd8_0 : fdB Try.prog 8 0 = some (0, 2, 1) := by kernel_rfl
theorem fd8_1 : fdB Try.prog 8 1 = some (1, 3, 1) := by kernel_rfl
theorem fd8_2 : fdB Try.prog 8 2 = some (2, 4, 1) := by kernel_rfl
theorem fd8_3 : fdB Try.prog 8 3 = some (3, 6, 1) := by kernel_rfl
theorem pl8 : plB Try.prog 8 = some [(0, 1), (1, 1), (2, 1), (3, 1)] := by kernel_rfl
theorem eg8 : Try.prog.eqGuardType Try.prog.depth 8 = false := by kernel_rfl
theorem eq8 (a0 b0 : Int) (a1 b1 : Int) (a2 b2 : Bool) (a3 b3 : Int) : eqP Try.prog 10000 8 [.int .i64 a0, .int .i64 a1, .bool a2, .int .u8 a3] [.int .i64 b0, .int .i64 b1, .bool b2, .int .u8 b3] = some ((a0 == b0) && ((a1 == b1) && ((a2 == b2) && ((a3 == b3) && true)))) := by kernel_rfl
theorem ty9 : tyB Try.prog 9 = some (false, 1) := by kernel_rfl
theorem ze9 : zeroB Try.prog 9 = some [.string ⟨#[]⟩] := by kernel_rfl
theorem st9 : Try.prog.underlying 9 = some .string := by kernel_rfl
theorem ty10 : tyB Try.prog 10 = some (false, 1) := by kernel_rfl
theorem ze10 : zeroB Try.prog 10 = some [.string ⟨#[]⟩] := by kernel_rfl
theorem st10 : Try.prog.underlying 10 = some .string := by kernel_rfl
theorem ty11 : tyB Try.prog 11 = some (false, 1) := by kernel_rfl
theorem ze11 : zeroB Try.prog 11 = some [.string ⟨#[]⟩] := by kernel_rfl
theorem st11 : Try.prog.underlying 11 = some .string := by kernel_rfl
theorem ty12 : tyB Try.prog 12 = some (false, 1) := by kernel_rfl
theorem ze12 : zeroB Try.prog 12 = some [.int .u64 0] := by kernel_rfl
theorem in12 : intB Try.prog 12 = some .u64 := by kernel_rfl
theorem ty13 : tyB Try.prog 13 = some (true, 2) := by kernel_rfl
theorem ze13 : zeroB Try.prog 13 = some [.string ⟨#[]⟩, .int .u64 0] := by kernel_rfl
theorem fd13_0 : fdB Try.prog 13 0 = some (0, 9, 1) := by kernel_rfl
theorem fd13_1 : fdB Try.prog 13 1 = some (1, 12, 1) := by kernel_rfl
theorem pl13 : plB Try.prog 13 = some [(0, 1), (1, 1)] := by kernel_rfl
theorem eg13 : Try.prog.eqGuardType Try.prog.depth 13 = false := by kernel_rfl
theorem ty14 : tyB Try.prog 14 = some (true, 2) := by kernel_rfl
theorem ze14 : zeroB Try.prog 14 = some [.string ⟨#[]⟩, .int .u64 0] := by kernel_rfl
theorem fd14_0 : fdB Try.prog 14 0 = some (0, 9, 1) := by kernel_rfl
theorem fd14_1 : fdB Try.prog 14 1 = some (1, 12, 1) := by kernel_rfl
theorem pl14 : plB Try.prog 14 = some [(0, 1), (1, 1)] := by kernel_rfl
theorem eg14 : Try.prog.eqGuardType Try.prog.depth 14 = false := by kernel_rfl
theorem ty15 : tyB Try.prog 15 = some (false, 1) := by kernel_rfl
theorem ze15 : zeroB Try.prog 15 = some [.pointer none] := by kernel_rfl
theorem ty16 : tyB Try.prog 16 = some (false, 1) := by kernel_rfl
theorem ze16 : zeroB Try.prog 16 = some [.pointer none] := by kernel_rfl
theorem ty17 : tyB Try.prog 17 = some (false, 1) := by kernel_rfl
theorem ze17 : zeroB Try.prog 17 = some [.pointer none] := by kernel_rfl
theorem ty18 : tyB Try.prog 18 = some (true, 1) := by kernel_rfl
theorem ze18 : zeroB Try.prog 18 = some [.pointer none] := by kernel_rfl
theorem fd18_0 : fdB Try.prog 18 0 = some (0, 17, 1) := by kernel_rfl
theorem pl18 : plB Try.prog 18 = some [(0, 1)] := by kernel_rfl
theorem ty19 : tyB Try.prog 19 = some (true, 1) := by kernel_rfl
theorem ze19 : zeroB Try.prog 19 = some [.pointer none] := by kernel_rfl
theorem fd19_0 : fdB Try.prog 19 0 = some (0, 17, 1) := by kernel_rfl
theorem pl19 : plB Try.prog 19 = some [(0, 1)] := by kernel_rfl
theorem ty20 : tyB Try.prog 20 = some (false, 1) := by kernel_rfl
theorem ze20 : zeroB Try.prog 20 = some [.nilIface] := by kernel_rfl
theorem ty21 : tyB Try.prog 21 = some (false, 1) := by kernel_rfl
theorem ze21 : zeroB Try.prog 21 = some [.int .i32 0] := by kernel_rfl
theorem in21 : intB Try.prog 21 = some .i32 := by kernel_rfl
theorem ty22 : tyB Try.prog 22 = some (false, 1) := by kernel_rfl
theorem ze22 : zeroB Try.prog 22 = some [.slice none 0 0] := by kernel_rfl
theorem sl22 : slB Try.prog 22 = some (31, 5, 40) := by kernel_rfl
theorem zc22 : ConvL ([.slice none 0 0].map T.v) [.slice 5 []] := .cons (.nil _) (.nil)
theorem ty23 : tyB Try.prog 23 = some (false, 1) := by kernel_rfl
theorem ze23 : zeroB Try.prog 23 = some [.slice none 0 0] := by kernel_rfl
theorem sl23 : slB Try.prog 23 = some (45, 3, 3) := by kernel_rfl
theorem zc23 : ConvL ([.slice none 0 0].map T.v) [.slice 3 []] := .cons (.nil _) (.nil)
theorem ty24 : tyB Try.prog 24 = some (true, 3) := by kernel_rfl
theorem ze24 : zeroB Try.prog 24 = some [.slice none 0 0, .slice none 0 0, .slice none 0 0] := by kernel_rfl
theorem ar24 : arB Try.prog 24 = some (3, 23, 1) := by kernel_rfl
theorem zc24 : ConvL ([.slice none 0 0, .slice none 0 0, .slice none 0 0].map T.v) [.slice 3 [], .slice 3 [], .slice 3 []] := .cons (.nil _) (.cons (.nil _) (.cons (.nil _) (.nil)))
theorem ty25 : tyB Try.prog 25 = some (true, 4) := by kernel_rfl
theorem ze25 : zeroB Try.prog 25 = some [.int .i64 0, .int .i64 0, .int .i64 0, .int .i64 0] := by kernel_rfl
theorem ar25 : arB Try.prog 25 = some (4, 3, 1) := by kernel_rfl
theorem eg25 : Try.prog.eqGuardType Try.prog.depth 25 = false := by kernel_rfl
theorem eq25 (a0 b0 : Int) (a1 b1 : Int) (a2 b2 : Int) (a3 b3 : Int) : eqP Try.prog 10000 25 [.int .i64 a0, .int .i64 a1, .int .i64 a2, .int .i64 a3] [.int .i64 b0, .int .i64 b1, .int .i64 b2, .int .i64 b3] = some ((a0 == b0) && ((a1 == b1) && ((a2 == b2) && ((a3 == b3) && true)))) := by kernel_rfl
theorem ty26 : tyB Try.prog 26 = some (false, 1) := by kernel_rfl
theorem ze26 : zeroB Try.prog 26 = some [.nilFunc] := by kernel_rfl
theorem ty27 : tyB Try.prog 27 = some (false, 1) := by kernel_rfl
theorem ze27 : zeroB Try.prog 27 = some [.nilFunc] := by kernel_rfl
theorem ty28 : tyB Try.prog 28 = some (false, 1) := by kernel_rfl
theorem ze28 : zeroB Try.prog 28 = some [.nilFunc] := by kernel_rfl
theorem ty29 : tyB Try.prog 29 = some (false, 1) := by kernel_rfl
theorem ze29 : zeroB Try.prog 29 = some [.slice none 0 0] := by kernel_rfl
theorem sl29 : slB Try.prog 29 = some (22, 1, 24) := by kernel_rfl
theorem zc29 : ConvL ([.slice none 0 0].map T.v) [.slice 1 []] := .cons (.nil _) (.nil)
theorem ty30 : tyB Try.prog 30 = some (true, 5) := by kernel_rfl
theorem ze30 : zeroB Try.prog 30 = some [.int .i64 0, .bool false, .int .i64 0, .int .i64 0, .bool false] := by kernel_rfl
theorem fd30_0 : fdB Try.prog 30 0 = some (0, 3, 1) := by kernel_rfl
theorem fd30_1 : fdB Try.prog 30 1 = some (1, 4, 1) := by kernel_rfl
theorem fd30_2 : fdB Try.prog 30 2 = some (2, 3, 1) := by kernel_rfl
theorem fd30_3 : fdB Try.prog 30 3 = some (3, 3, 1) := by kernel_rfl
theorem fd30_4 : fdB Try.prog 30 4 = some (4, 4, 1) := by kernel_rfl
theorem pl30 : plB Try.prog 30 = some [(0, 1), (1, 1), (2, 1), (3, 1), (4, 1)] := by kernel_rfl
theorem eg30 : Try.prog.eqGuardType Try.prog.depth 30 = false := by kernel_rfl
theorem eq30 (a0 b0 : Int) (a1 b1 : Bool) (a2 b2 : Int) (a3 b3 : Int) (a4 b4 : Bool) : eqP Try.prog 10000 30 [.int .i64 a0, .bool a1, .int .i64 a2, .int .i64 a3, .bool a4] [.int .i64 b0, .bool b1, .int .i64 b2, .int .i64 b3, .bool b4] = some ((a0 == b0) && ((a1 == b1) && ((a2 == b2) && ((a3 == b3) && ((a4 == b4) && true))))) := by kernel_rfl
theorem ty31 : tyB Try.prog 31 = some (true, 5) := by kernel_rfl
theorem ze31 : zeroB Try.prog 31 = some [.int .i64 0, .bool false, .int .i64 0, .int .i64 0, .bool false] := by kernel_rfl
theorem fd31_0 : fdB Try.prog 31 0 = some (0, 3, 1) := by kernel_rfl
theorem fd31_1 : fdB Try.prog 31 1 = some (1, 4, 1) := by kernel_rfl
theorem fd31_2 : fdB Try.prog 31 2 = some (2, 3, 1) := by kernel_rfl
theorem fd31_3 : fdB Try.prog 31 3 = some (3, 3, 1) := by kernel_rfl
theorem fd31_4 : fdB Try.prog 31 4 = some (4, 4, 1) := by kernel_rfl
theorem pl31 : plB Try.prog 31 = some [(0, 1), (1, 1), (2, 1), (3, 1), (4, 1)] := by kernel_rfl
theorem eg31 : Try.prog.eqGuardType Try.prog.depth 31 = false := by kernel_rfl
theorem eq31 (a0 b0 : Int) (a1 b1 : Bool) (a2 b2 : Int) (a3 b3 : Int) (a4 b4 : Bool) : eqP Try.prog 10000 31 [.int .i64 a0, .bool a1, .int .i64 a2, .int .i64 a3, .bool a4] [.int .i64 b0, .bool b1, .int .i64 b2, .int .i64 b3, .bool b4] = some ((a0 == b0) && ((a1 == b1) && ((a2 == b2) && ((a3 == b3) && ((a4 == b4) && true))))) := by kernel_rfl
theorem ty32 : tyB Try.prog 32 = some (false, 1) := by kernel_rfl
theorem ze32 : zeroB Try.prog 32 = some [.nilFunc] := by kernel_rfl
theorem ty33 : tyB Try.prog 33 = some (false, 1) := by kernel_rfl
theorem ze33 : zeroB Try.prog 33 = some [.nilFunc] := by kernel_rfl
theorem ty34 : tyB Try.prog 34 = some (false, 1) := by kernel_rfl
theorem ze34 : zeroB Try.prog 34 = some [.nilFunc] := by kernel_rfl
theorem ty35 : tyB Try.prog 35 = some (false, 1) := by kernel_rfl
theorem ze35 : zeroB Try.prog 35 = some [.nilFunc] := by kernel_rfl
theorem ty36 : tyB Try.prog 36 = some (false, 1) := by kernel_rfl
theorem ze36 : zeroB Try.prog 36 = some [.nilFunc] := by kernel_rfl
theorem ty37 : tyB Try.prog 37 = some (false, 1) := by kernel_rfl
theorem ze37 : zeroB Try.prog 37 = some [.nilFunc] := by kernel_rfl
theorem ty38 : tyB Try.prog 38 = some (false, 1) := by kernel_rfl
theorem ze38 : zeroB Try.prog 38 = some [.int .i64 0] := by kernel_rfl
theorem in38 : intB Try.prog 38 = some .i64 := by kernel_rfl
theorem ty40 : tyB Try.prog 40 = some (false, 1) := by kernel_rfl
theorem ze40 : zeroB Try.prog 40 = some [.nilFunc] := by kernel_rfl
theorem ty41 : tyB Try.prog 41 = some (true, 2) := by kernel_rfl
theorem ze41 : zeroB Try.prog 41 = some [.slice none 0 0, .bool false] := by kernel_rfl
theorem fd41_0 : fdB Try.prog 41 0 = some (0, 22, 1) := by kernel_rfl
theorem fd41_1 : fdB Try.prog 41 1 = some (1, 4, 1) := by kernel_rfl
theorem pl41 : plB Try.prog 41 = some [(0, 1), (1, 1)] := by kernel_rfl
theorem zc41 : ConvL ([.slice none 0 0, .bool false].map T.v) [.slice 5 [], .v (.bool false)] := .cons (.nil _) (.cons (.refl _) (.nil))
theorem ty42 : tyB Try.prog 42 = some (true, 2) := by kernel_rfl
theorem ze42 : zeroB Try.prog 42 = some [.slice none 0 0, .bool false] := by kernel_rfl
theorem fd42_0 : fdB Try.prog 42 0 = some (0, 22, 1) := by kernel_rfl
theorem fd42_1 : fdB Try.prog 42 1 = some (1, 4, 1) := by kernel_rfl
theorem pl42 : plB Try.prog 42 = some [(0, 1), (1, 1)] := by kernel_rfl
theorem zc42 : ConvL ([.slice none 0 0, .bool false].map T.v) [.slice 5 [], .v (.bool false)] := .cons (.nil _) (.cons (.refl _) (.nil))
theorem ty43 : tyB Try.prog 43 = some (false, 1) := by kernel_rfl
theorem ze43 : zeroB Try.prog 43 = some [.nilFunc] := by kernel_rfl
theorem ty44 : tyB Try.prog 44 = some (false, 1) := by kernel_rfl
theorem ze44 : zeroB Try.prog 44 = some [.nilFunc] := by kernel_rfl
theorem ty45 : tyB Try.prog 45 = some (true, 3) := by kernel_rfl
theorem ze45 : zeroB Try.prog 45 = some [.int .u8 0, .int .u8 0, .int .u8 0] := by kernel_rfl
theorem ar45 : arB Try.prog 45 = some (3, 5, 1) := by kernel_rfl
theorem eg45 : Try.prog.eqGuardType Try.prog.depth 45 = false := by kernel_rfl
theorem eq45 (a0 b0 : Int) (a1 b1 : Int) (a2 b2 : Int) : eqP Try.prog 10000 45 [.int .u8 a0, .int .u8 a1, .int .u8 a2] [.int .u8 b0, .int .u8 b1, .int .u8 b2] = some ((a0 == b0) && ((a1 == b1) && ((a2 == b2) && true))) := by kernel_rfl
theorem ty46 : tyB Try.prog 46 = some (true, 2) := by kernel_rfl
theorem ze46 : zeroB Try.prog 46 = some [.int .u8 0, .int .u8 0] := by kernel_rfl
theorem ar46 : arB Try.prog 46 = some (2, 5, 1) := by kernel_rfl
theorem eg46 : Try.prog.eqGuardType Try.prog.depth 46 = false := by kernel_rfl
theorem eq46 (a0 b0 : Int) (a1 b1 : Int) : eqP Try.prog 10000 46 [.int .u8 a0, .int .u8 a1] [.int .u8 b0, .int .u8 b1] = some ((a0 == b0) && ((a1 == b1) && true)) := by kernel_rfl
theorem ty47 : tyB Try.prog 47 = some (false, 1) := by kernel_rfl
theorem ze47 : zeroB Try.prog 47 = some [.nilFunc] := by kernel_rfl
theorem ty48 : tyB Try.prog 48 = some (false, 1) := by kernel_rfl
theorem ze48 : zeroB Try.prog 48 = some [.nilFunc] := by kernel_rfl
theorem ty49 : tyB Try.prog 49 = some (true, 2) := by kernel_rfl
theorem ze49 : zeroB Try.prog 49 = some [.int .i64 0, .int .i64 0] := by kernel_rfl
theorem ar49 : arB Try.prog 49 = some (2, 3, 1) := by kernel_rfl
theorem eg49 : Try.prog.eqGuardType Try.prog.depth 49 = false := by kernel_rfl
theorem eq49 (a0 b0 : Int) (a1 b1 : Int) : eqP Try.prog 10000 49 [.int .i64 a0, .int .i64 a1] [.int .i64 b0, .int .i64 b1] = some ((a0 == b0) && ((a1 == b1) && true)) := by kernel_rfl
theorem ty50 : tyB Try.prog 50 = some (false, 1) := by kernel_rfl
theorem ze50 : zeroB Try.prog 50 = some [.nilFunc] := by kernel_rfl
theorem ty51 : tyB Try.prog 51 = some (false, 1) := by kernel_rfl
theorem ze51 : zeroB Try.prog 51 = some [.nilFunc] := by kernel_rfl
theorem ty52 : tyB Try.prog 52 = some (false, 1) := by kernel_rfl
theorem ze52 : zeroB Try.prog 52 = some [.nilFunc] := by kernel_rfl
theorem ty53 : tyB Try.prog 53 = some (false, 1) := by kernel_rfl
theorem ze53 : zeroB Try.prog 53 = some [.nilFunc] := by kernel_rfl
theorem ty54 : tyB Try.prog 54 = some (false, 1) := by kernel_rfl
theorem ze54 : zeroB Try.prog 54 = some [.nilFunc] := by kernel_rfl
theorem ty55 : tyB Try.prog 55 = some (false, 1) := by kernel_rfl
theorem ze55 : zeroB Try.prog 55 = some [.nilFunc] := by kernel_rfl
theorem ty56 : tyB Try.prog 56 = some (false, 1) := by kernel_rfl
theorem ze56 : zeroB Try.prog 56 = some [.nilFunc] := by kernel_rfl
theorem ty57 : tyB Try.prog 57 = some (false, 1) := by kernel_rfl
theorem ze57 : zeroB Try.prog 57 = some [.map none] := by kernel_rfl
theorem ty58 : tyB Try.prog 58 = some (false, 1) := by kernel_rfl
theorem ze58 : zeroB Try.prog 58 = some [.nilFunc] := by kernel_rfl
theorem ty59 : tyB Try.prog 59 = some (true, 4) := by kernel_rfl
theorem ze59 : zeroB Try.prog 59 = some [.int .i64 0, .bool false, .bool false, .int .i64 0] := by kernel_rfl
theorem fd59_0 : fdB Try.prog 59 0 = some (0, 3, 1) := by kernel_rfl
theorem fd59_1 : fdB Try.prog 59 1 = some (1, 4, 1) := by kernel_rfl
theorem fd59_2 : fdB Try.prog 59 2 = some (2, 4, 1) := by kernel_rfl
theorem fd59_3 : fdB Try.prog 59 3 = some (3, 3, 1) := by kernel_rfl
theorem pl59 : plB Try.prog 59 = some [(0, 1), (1, 1), (2, 1), (3, 1)] := by kernel_rfl
theorem eg59 : Try.prog.eqGuardType Try.prog.depth 59 = false := by kernel_rfl
theorem eq59 (a0 b0 : Int) (a1 b1 : Bool) (a2 b2 : Bool) (a3 b3 : Int) : eqP Try.prog 10000 59 [.int .i64 a0, .bool a1, .bool a2, .int .i64 a3] [.int .i64 b0, .bool b1, .bool b2, .int .i64 b3] = some ((a0 == b0) && ((a1 == b1) && ((a2 == b2) && ((a3 == b3) && true)))) := by kernel_rfl
theorem ty60 : tyB Try.prog 60 = some (true, 4) := by kernel_rfl
theorem ze60 : zeroB Try.prog 60 = some [.int .i64 0, .bool false, .bool false, .int .i64 0] := by kernel_rfl
theorem fd60_0 : fdB Try.prog 60 0 = some (0, 3, 1) := by kernel_rfl
theorem fd60_1 : fdB Try.prog 60 1 = some (1, 4, 1) := by kernel_rfl
theorem fd60_2 : fdB Try.prog 60 2 = some (2, 4, 1) := by kernel_rfl
theorem fd60_3 : fdB Try.prog 60 3 = some (3, 3, 1) := by kernel_rfl
theorem pl60 : plB Try.prog 60 = some [(0, 1), (1, 1), (2, 1), (3, 1)] := by kernel_rfl
theorem eg60 : Try.prog.eqGuardType Try.prog.depth 60 = false := by kernel_rfl
theorem eq60 (a0 b0 : Int) (a1 b1 : Bool) (a2 b2 : Bool) (a3 b3 : Int) : eqP Try.prog 10000 60 [.int .i64 a0, .bool a1, .bool a2, .int .i64 a3] [.int .i64 b0, .bool b1, .bool b2, .int .i64 b3] = some ((a0 == b0) && ((a1 == b1) && ((a2 == b2) && ((a3 == b3) && true)))) := by kernel_rfl
theorem ty61 : tyB Try.prog 61 = some (false, 1) := by kernel_rfl
theorem ze61 : zeroB Try.prog 61 = some [.nilFunc] := by kernel_rfl
theorem ty62 : tyB Try.prog 62 = some (false, 1) := by kernel_rfl
theorem ze62 : zeroB Try.prog 62 = some [.nilFunc] := by kernel_rfl
theorem ty63 : tyB Try.prog 63 = some (false, 1) := by kernel_rfl
theorem ze63 : zeroB Try.prog 63 = some [.map none] := by kernel_rfl
theorem ty65 : tyB Try.prog 65 = some (false, 1) := by kernel_rfl
theorem ze65 : zeroB Try.prog 65 = some [.nilFunc] := by kernel_rfl
theorem ty66 : tyB Try.prog 66 = some (false, 1) := by kernel_rfl
theorem ze66 : zeroB Try.prog 66 = some [.nilFunc] := by kernel_rfl
theorem ty67 : tyB Try.prog 67 = some (false, 1) := by kernel_rfl
theorem ze67 : zeroB Try.prog 67 = some [.nilFunc] := by kernel_rfl
theorem ty69 : tyB Try.prog 69 = some (false, 1) := by kernel_rfl
theorem ze69 : zeroB Try.prog 69 = some [.nilFunc] := by kernel_rfl
theorem ty70 : tyB Try.prog 70 = some (false, 1) := by kernel_rfl
theorem ze70 : zeroB Try.prog 70 = some [.slice none 0 0] := by kernel_rfl
theorem sl70 : slB Try.prog 70 = some (3, 1, 8) := by kernel_rfl
theorem zc70 : ConvL ([.slice none 0 0].map T.v) [.slice 1 []] := .cons (.nil _) (.nil)
theorem ty71 : tyB Try.prog 71 = some (false, 1) := by kernel_rfl
theorem ze71 : zeroB Try.prog 71 = some [.nilFunc] := by kernel_rfl
theorem ty72 : tyB Try.prog 72 = some (false, 1) := by kernel_rfl
theorem ze72 : zeroB Try.prog 72 = some [.nilFunc] := by kernel_rfl
theorem ty73 : tyB Try.prog 73 = some (false, 1) := by kernel_rfl
theorem ze73 : zeroB Try.prog 73 = some [.nilFunc] := by kernel_rfl
theorem ty74 : tyB Try.prog 74 = some (false, 1) := by kernel_rfl
theorem ze74 : zeroB Try.prog 74 = some [.nilFunc] := by kernel_rfl
theorem ty75 : tyB Try.prog 75 = some (false, 1) := by kernel_rfl
theorem ze75 : zeroB Try.prog 75 = some [.nilFunc] := by kernel_rfl
theorem ty76 : tyB Try.prog 76 = some (false, 1) := by kernel_rfl
theorem ze76 : zeroB Try.prog 76 = some [.nilFunc] := by kernel_rfl
theorem ty77 : tyB Try.prog 77 = some (false, 1) := by kernel_rfl
theorem ze77 : zeroB Try.prog 77 = some [.nilFunc] := by kernel_rfl
theorem ty78 : tyB Try.prog 78 = some (true, 4) := by kernel_rfl
theorem ze78 : zeroB Try.prog 78 = some [.pointer none, .pointer none, .pointer none, .string ⟨#[]⟩] := by kernel_rfl
theorem fd78_0 : fdB Try.prog 78 0 = some (0, 17, 1) := by kernel_rfl
theorem fd78_1 : fdB Try.prog 78 1 = some (1, 17, 1) := by kernel_rfl
theorem fd78_2 : fdB Try.prog 78 2 = some (2, 17, 1) := by kernel_rfl
theorem fd78_3 : fdB Try.prog 78 3 = some (3, 9, 1) := by kernel_rfl
theorem pl78 : plB Try.prog 78 = some [(0, 1), (1, 1), (2, 1), (3, 1)] := by kernel_rfl
theorem ty79 : tyB Try.prog 79 = some (true, 4) := by kernel_rfl
theorem ze79 : zeroB Try.prog 79 = some [.pointer none, .pointer none, .pointer none, .string ⟨#[]⟩] := by kernel_rfl
theorem fd79_0 : fdB Try.prog 79 0 = some (0, 17, 1) := by kernel_rfl
theorem fd79_1 : fdB Try.prog 79 1 = some (1, 17, 1) := by kernel_rfl
theorem fd79_2 : fdB Try.prog 79 2 = some (2, 17, 1) := by kernel_rfl
theorem fd79_3 : fdB Try.prog 79 3 = some (3, 9, 1) := by kernel_rfl
theorem pl79 : plB Try.prog 79 = some [(0, 1), (1, 1), (2, 1), (3, 1)] := by kernel_rfl
theorem ty80 : tyB Try.prog 80 = some (true, 0) := by kernel_rfl
theorem ze80 : zeroB Try.prog 80 = some [] := by kernel_rfl
theorem ar80 : arB Try.prog 80 = some (0, 16, 1) := by kernel_rfl
theorem eg80 : Try.prog.eqGuardType Try.prog.depth 80 = false := by kernel_rfl
theorem eq80  : eqP Try.prog 10000 80 [] [] = some true := by kernel_rfl
theorem ty81 : tyB Try.prog 81 = some (true, 0) := by kernel_rfl
theorem ze81 : zeroB Try.prog 81 = some [] := by kernel_rfl
theorem fd81_0 : fdB Try.prog 81 0 = some (0, 80, 0) := by kernel_rfl
theorem pl81 : plB Try.prog 81 = some [(0, 0)] := by kernel_rfl
theorem eg81 : Try.prog.eqGuardType Try.prog.depth 81 = false := by kernel_rfl
theorem ty82 : tyB Try.prog 82 = some (true, 0) := by kernel_rfl
theorem ze82 : zeroB Try.prog 82 = some [] := by kernel_rfl
theorem fd82_0 : fdB Try.prog 82 0 = some (0, 80, 0) := by kernel_rfl
theorem pl82 : plB Try.prog 82 = some [(0, 0)] := by kernel_rfl
theorem eg82 : Try.prog.eqGuardType Try.prog.depth 82 = false := by kernel_rfl
theorem ty83 : tyB Try.prog 83 = some (false, 1) := by kernel_rfl
theorem ze83 : zeroB Try.prog 83 = some [.nilFunc] := by kernel_rfl
theorem ty84 : tyB Try.prog 84 = some (false, 1) := by kernel_rfl
theorem ze84 : zeroB Try.prog 84 = some [.int .u32 0] := by kernel_rfl
theorem in84 : intB Try.prog 84 = some .u32 := by kernel_rfl
theorem ty85 : tyB Try.prog 85 = some (false, 1) := by kernel_rfl
theorem ze85 : zeroB Try.prog 85 = some [.int .u8 0] := by kernel_rfl
theorem in85 : intB Try.prog 85 = some .u8 := by kernel_rfl
theorem ty86 : tyB Try.prog 86 = some (false, 1) := by kernel_rfl
theorem ze86 : zeroB Try.prog 86 = some [.int .u8 0] := by kernel_rfl
theorem in86 : intB Try.prog 86 = some .u8 := by kernel_rfl
theorem ty87 : tyB Try.prog 87 = some (false, 1) := by kernel_rfl
theorem ze87 : zeroB Try.prog 87 = some [.nilFunc] := by kernel_rfl
theorem ty88 : tyB Try.prog 88 = some (false, 1) := by kernel_rfl
theorem ze88 : zeroB Try.prog 88 = some [.pointer none] := by kernel_rfl
theorem ty89 : tyB Try.prog 89 = some (false, 1) := by kernel_rfl
theorem ze89 : zeroB Try.prog 89 = some [.int .i32 0] := by kernel_rfl
theorem in89 : intB Try.prog 89 = some .i32 := by kernel_rfl
theorem ty90 : tyB Try.prog 90 = some (false, 1) := by kernel_rfl
theorem ze90 : zeroB Try.prog 90 = some [.int .i32 0] := by kernel_rfl
theorem in90 : intB Try.prog 90 = some .i32 := by kernel_rfl
theorem ty91 : tyB Try.prog 91 = some (true, 11) := by kernel_rfl
theorem ze91 : zeroB Try.prog 91 = some [.int .u64 0, .int .u64 0, .int .u32 0, .int .u8 0, .int .u8 0, .int .u8 0, .int .u8 0, .nilFunc, .pointer none, .int .i32 0, .int .i32 0] := by kernel_rfl
theorem fd91_0 : fdB Try.prog 91 0 = some (0, 12, 1) := by kernel_rfl
theorem fd91_1 : fdB Try.prog 91 1 = some (1, 12, 1) := by kernel_rfl
theorem fd91_2 : fdB Try.prog 91 2 = some (2, 84, 1) := by kernel_rfl
theorem fd91_3 : fdB Try.prog 91 3 = some (3, 85, 1) := by kernel_rfl
theorem fd91_4 : fdB Try.prog 91 4 = some (4, 5, 1) := by kernel_rfl
theorem fd91_5 : fdB Try.prog 91 5 = some (5, 5, 1) := by kernel_rfl
theorem fd91_6 : fdB Try.prog 91 6 = some (6, 86, 1) := by kernel_rfl
theorem fd91_7 : fdB Try.prog 91 7 = some (7, 87, 1) := by kernel_rfl
theorem fd91_8 : fdB Try.prog 91 8 = some (8, 88, 1) := by kernel_rfl
theorem fd91_9 : fdB Try.prog 91 9 = some (9, 89, 1) := by kernel_rfl
theorem fd91_10 : fdB Try.prog 91 10 = some (10, 90, 1) := by kernel_rfl
theorem pl91 : plB Try.prog 91 = some [(0, 1), (1, 1), (2, 1), (3, 1), (4, 1), (5, 1), (6, 1), (7, 1), (8, 1), (9, 1), (10, 1)] := by kernel_rfl
theorem ty92 : tyB Try.prog 92 = some (true, 11) := by kernel_rfl
theorem ze92 : zeroB Try.prog 92 = some [.int .u64 0, .int .u64 0, .int .u32 0, .int .u8 0, .int .u8 0, .int .u8 0, .int .u8 0, .nilFunc, .pointer none, .int .i32 0, .int .i32 0] := by kernel_rfl
theorem fd92_0 : fdB Try.prog 92 0 = some (0, 12, 1) := by kernel_rfl
theorem fd92_1 : fdB Try.prog 92 1 = some (1, 12, 1) := by kernel_rfl
theorem fd92_2 : fdB Try.prog 92 2 = some (2, 84, 1) := by kernel_rfl
theorem fd92_3 : fdB Try.prog 92 3 = some (3, 85, 1) := by kernel_rfl
theorem fd92_4 : fdB Try.prog 92 4 = some (4, 5, 1) := by kernel_rfl
theorem fd92_5 : fdB Try.prog 92 5 = some (5, 5, 1) := by kernel_rfl
theorem fd92_6 : fdB Try.prog 92 6 = some (6, 86, 1) := by kernel_rfl
theorem fd92_7 : fdB Try.prog 92 7 = some (7, 87, 1) := by kernel_rfl
theorem fd92_8 : fdB Try.prog 92 8 = some (8, 88, 1) := by kernel_rfl
theorem fd92_9 : fdB Try.prog 92 9 = some (9, 89, 1) := by kernel_rfl
theorem fd92_10 : fdB Try.prog 92 10 = some (10, 90, 1) := by kernel_rfl
theorem pl92 : plB Try.prog 92 = some [(0, 1), (1, 1), (2, 1), (3, 1), (4, 1), (5, 1), (6, 1), (7, 1), (8, 1), (9, 1), (10, 1)] := by kernel_rfl
end Go.Proofs.Ytgblfhobiibeaaa.Acl

/- Contracts of functions of package slices, at this translation's types. Printed by wip/tools/lib.py. No condition. -/
set_option linter.unusedVariables false
set_option linter.unusedSimpArgs false
namespace Go.Proofs.Ytgblfhobiibeaaa.Acl
open Go.Proofs.Ytgblfhobiibeaaa.Abs
set_option maxRecDepth 100000
set_option maxHeartbeats 4000000
theorem C43 (l : List T) (hb : l.length * 40 ≤ 140737488355328) : HasOwn Try.prog 43 [.slice 5 l] 31 5 l := by
  by_cases h0 : 0 < l.length
  ·
    refine HasOwn.intro 8 Try.func43 (by kernel_rfl) rfl rfl fun w ok => ?_
    refine AT.seq ?_
    refine AT.region ?_
    refine TrC.take rfl (step_assignN (sz := 5) rfl rfl) ?_
    refine TrC.done ?_
    refine AT.seq ?_
    refine AT.seq ?_
    refine AT.region ?_
    refine TrC.take rfl (step_move rfl rfl rfl) ?_
    refine TrC.take rfl (step_eqNilF rfl rfl (.refl _) h0 rfl sl22 rfl) ?_
    refine TrC.done ?_
    refine AT.condF rfl ?_
    refine AT.skip ?_
    refine AT.seq ?_
    refine AT.region ?_
    refine TrC.take rfl (step_buildSliceH rfl rfl sl22 ze31 rfl rfl rfl rfl rfl rfl rfl rfl rfl rfl rfl rfl rfl) ?_
    refine TrC.take rfl (step_move rfl rfl rfl) ?_
    refine TrC.take rfl (step_append rfl rfl rfl rfl rfl (.refl _) sl22 ze31 rfl rfl rfl (by first | (simp; done) | (simp; omega)) rfl rfl) ?_
    refine TrC.take rfl (step_assign rfl rfl rfl) ?_
    refine TrC.done ?_
    refine AT.ret ?_
    exact ⟨2, 7, rfl, rfl, rfl⟩
  · have hl : l = [] := List.eq_nil_of_length_eq_zero (by omega)
    subst hl
    refine HasOwn.intro 8 Try.func43 (by kernel_rfl) rfl rfl fun w ok => ?_
    refine AT.seq ?_
    refine AT.region ?_
    refine TrC.take rfl (step_assignN (sz := 5) rfl rfl) ?_
    refine TrC.done ?_
    refine AT.seq ?_
    refine AT.seq ?_
    refine AT.region ?_
    refine TrC.take rfl (step_move rfl rfl rfl) ?_
    refine TrC.take rfl (step_eqNil rfl rfl (.refl _) sl22 rfl) ?_
    refine TrC.done ?_
    refine AT.condU rfl ?_ ?_
    · refine AT.seq ?_
      refine AT.region ?_
      refine TrC.take rfl (step_assignR (E := 31) (sz := 5) rfl rfl rfl rfl) ?_
      refine TrC.done ?_
      refine AT.ret ?_
      exact ⟨2, 2, rfl, rfl, rfl⟩
    ·
      refine AT.skip ?_
      refine AT.seq ?_
      refine AT.region ?_
      refine TrC.take rfl (step_buildSliceH rfl rfl sl22 ze31 rfl rfl rfl rfl rfl rfl rfl rfl rfl rfl rfl rfl rfl) ?_
      refine TrC.take rfl (step_move rfl rfl rfl) ?_
      refine TrC.take rfl (step_append rfl rfl rfl rfl rfl (.refl _) sl22 ze31 rfl rfl rfl (by first | (simp; done) | (simp; omega)) rfl rfl) ?_
      refine TrC.take rfl (step_assign rfl rfl rfl) ?_
      refine TrC.done ?_
      refine AT.ret ?_
      exact ⟨2, 7, rfl, rfl, rfl⟩
theorem C42 (l : List T) (g : FuncId) (caps : List T) (p : T → Bool) (hl : l.length ≤ 9223372036854775806) (he : ∀ x ∈ l, ∃ cs, x = .agg cs ∧ cs.length = 5) (hp : ∀ x ∈ l, Has Try.prog g ([x] ++ caps) (.b (p x))) :
    Has Try.prog 42 [.slice 5 l, .clo g caps] (.i (match l.findIdx? p with | some i => (i : Int) | none => -1)) := by
  refine Has.intro 19 Try.func42 (by kernel_rfl) rfl rfl fun w ok => ?_
  refine AT.seq ?_
  refine AT.region ?_
  refine TrC.take rfl (step_assign rfl rfl rfl) ?_
  refine TrC.done ?_
  refine AT.seq ?_
  refine AT.seq ?_
  refine AT.region ?_
  refine TrC.take rfl (step_move rfl rfl rfl) ?_
  refine TrC.take rfl (step_lenT (rt := 0) rfl rfl sl22 rfl) ?_
  refine TrC.take rfl (step_move rfl rfl rfl) ?_
  refine TrC.done ?_
  refine AT.block ?_
  refine AT.loopP (fun i : Nat => i ≤ l.length ∧ ∀ j (h : j < l.length), j < i → p l[j] = false) (fun i => mkS [(0, .t (.slice 5 l)), (1, .t (.clo g caps)), (7, .t (.i l.length)), (8, .t (.i i))] []) (fun i => l.length - i) 0 ⟨by omega, fun j h hj => by omega⟩
    (fun a w hs => Sat.wk [] (.cons (.t (.refl _)) (.cons (.t (.refl _)) (.cons (.t (.refl _)) (.cons (.t (.refl _)) .nil)))) .nil rfl rfl a w hs) (fun i hpi => ?_)
  obtain ⟨hi, hpre⟩ := hpi
  refine AT.seq ?_
  refine AT.region ?_
  refine TrC.take rfl (step_bin rfl rfl rfl rfl rfl) ?_
  refine TrC.done ?_
  refine AT.seq ?_
  refine AT.cond rfl (fun h9 => ?_) (fun h9 => ?_)
  · have hlt : i < l.length := by simpa using h9
    obtain ⟨cs, hcs, hcl⟩ := he l[i] (List.getElem_mem hlt)
    obtain ⟨a0, a1, a2, a3, a4, rfl⟩ : ∃ a0 a1 a2 a3 a4, cs = [a0, a1, a2, a3, a4] := by
      match cs, hcl with | [xa0, xa1, xa2, xa3, xa4], _ => exact ⟨xa0, xa1, xa2, xa3, xa4, rfl⟩
    have hget : l[i]? = some (.agg [a0, a1, a2, a3, a4]) := by rw [List.getElem?_eq_getElem hlt, hcs]
    have hpi := hp l[i] (List.getElem_mem hlt)
    rw [hcs] at hpi
    refine AT.skip ?_
    refine AT.seq ?_
    refine AT.block ?_
    refine AT.seq ?_
    refine AT.region ?_
    refine TrC.take rfl (step_move rfl rfl rfl) ?_
    refine TrC.take rfl (step_assign rfl rfl rfl) ?_
    refine TrC.done ?_
    refine AT.seq ?_
    refine AT.region ?_
    refine TrC.take rfl (step_move rfl rfl rfl) ?_
    refine TrC.take rfl (step_move rfl rfl rfl) ?_
    refine TrC.take rfl (step_move rfl rfl rfl) ?_
    refine TrC.take rfl (step_indexAddrT (v := .agg [a0, a1, a2, a3, a4]) rfl rfl rfl sl22 (by omega) (by simpa using hget) rfl rfl) ?_
    refine TrC.take rfl (step_loadTN rfl rfl ty31 rfl rfl) ?_
    refine TrC.take rfl (step_callC rfl rfl (.refl _) rfl hpi (ConvL.refl _) rfl) ?_
    refine TrC.done ?_
    refine AT.cond rfl (fun h16 => ?_) (fun h16 => ?_)
    · have hfi : l.findIdx? p = some i := findIdx_found hlt (by rw [hcs]; exact h16) hpre
      refine AT.seq ?_
      refine AT.region ?_
      refine TrC.take rfl (step_move rfl rfl rfl) ?_
      refine TrC.take rfl (step_assign rfl rfl rfl) ?_
      refine TrC.done ?_
      refine AT.ret ?_
      exact Ret.one rfl (ResR.tmp rfl (conv_i (by rw [hfi])))
    · refine AT.skip ?_
      refine AT.region ?_
      refine TrC.take rfl (step_addI rfl rfl rfl (by omega) (by omega) rfl) ?_
      refine TrC.take rfl (step_move rfl rfl rfl) ?_
      refine TrC.done ?_
      exact ⟨i + 1, ⟨hlt, fun j hj hji => by
        by_cases he : j = i
        · subst he; rw [hcs]; exact h16
        · exact hpre j hj (by omega)⟩, by show l.length - (i + 1) < l.length - i; omega, Sat.wk [] (.cons (.t (.refl _)) (.cons (.t (.refl _)) (.cons (.t (.refl _)) (.cons (.t (conv_i (by simp))) .nil)))) .nil rfl rfl⟩
  · have hge : ¬ i < l.length := by simpa using h9
    have hfi : l.findIdx? p = none := findIdx_no fun j hj => hpre j hj (by omega)
    refine AT.exit (Or.inl ⟨rfl, ?_⟩)
    refine AT.seq ?_
    refine AT.region ?_
    refine TrC.take rfl (step_assign rfl rfl rfl) ?_
    refine TrC.done ?_
    refine AT.ret ?_
    exact Ret.one rfl (ResR.tmp rfl (conv_i (by rw [hfi])))
theorem C44 (l : List T) (k : Nat) (x : T) (hk : k ≤ l.length) (hbig : (l.length + 1) * 40 ≤ 140737488355328) : HasG Try.prog 44 [] [.h 100, .t (.i k), .h 102] [(100, .row 31 5 l), (102, .row 31 5 [x])] (.h 300) [(300, .row 31 5 (l.take k ++ x :: l.drop k))] := by
  refine HasG.intro 95 Try.func44 (by kernel_rfl) rfl rfl rfl fun w0 ok0 keep av => ?_
  refine AT.seq ?_
  refine AT.region ?_
  refine TrC.take rfl (step_assignN (sz := 5) rfl rfl) ?_
  refine TrC.done ?_
  refine AT.seq ?_
  refine AT.region ?_
  refine TrC.take rfl (step_move rfl rfl rfl) ?_
  refine TrC.take rfl (step_move rfl rfl rfl) ?_
  refine TrC.take rfl (step_sliceHJ k l.length rfl rfl rfl (.some rfl (by omega)) (.none _) rfl sl22 (by omega) (by omega) rfl) ?_
  refine TrC.done ?_
  refine AT.seq ?_
  refine AT.region ?_
  refine TrC.take rfl (step_move rfl rfl rfl) ?_
  refine TrC.take rfl (step_lenH rfl rfl rfl sl22 rfl) ?_
  refine TrC.take rfl (step_assign rfl rfl rfl) ?_
  refine TrC.done ?_
  refine AT.seq ?_
  refine AT.seq ?_
  refine AT.region ?_
  refine TrC.take rfl (step_move rfl rfl rfl) ?_
  refine TrC.take rfl (step_bin rfl rfl rfl rfl rfl) ?_
  refine TrC.done ?_
  refine AT.cond rfl (fun h => ?_) (fun h => ?_)
  · exfalso; simp at h
  · refine AT.skip ?_
    refine AT.seq ?_
    refine AT.region ?_
    refine TrC.take rfl (step_move rfl rfl rfl) ?_
    refine TrC.take rfl (step_lenH rfl rfl rfl sl22 rfl) ?_
    refine TrC.take rfl (step_assign rfl rfl rfl) ?_
    refine TrC.done ?_
    refine AT.seq ?_
    refine AT.seq ?_
    refine AT.region ?_
    refine TrC.take rfl (step_move rfl rfl rfl) ?_
    refine TrC.take rfl (step_move rfl rfl rfl) ?_
    refine TrC.take rfl (step_bin rfl rfl rfl rfl rfl) ?_
    refine TrC.done ?_
    refine AT.cond rfl (fun h22 => ?_) (fun h22 => ?_)
    · have hkl : k = l.length := Int.ofNat_inj.1 (by simpa using h22)
      refine AT.seq ?_
      refine AT.wk [] (sl := [(0, .h 100), (2, .t (.slice 5 [x]))]) (ml := [(100, .row 31 5 l)]) (.cons (.h rfl) (.cons (.fr rfl rfl) .nil)) (.cons rfl (.row rfl) .nil) rfl rfl ?_
      refine AT.region ?_
      refine TrC.take rfl (step_move rfl rfl rfl) ?_
      refine TrC.take rfl (step_move rfl rfl rfl) ?_
      refine TrC.take rfl (step_append rfl rfl rfl rfl rfl (.refl _) sl22 ze31 rfl rfl rfl (by simp; omega) rfl rfl) ?_
      refine TrC.take rfl (step_assign rfl rfl rfl) ?_
      refine TrC.done ?_
      refine AT.ret ?_
      exact RetG.one [(300, 25)] rfl (.tmp rfl) (.h rfl) (.cons rfl (.row (by subst hkl; simp)) .nil) rfl rfl
    · have hkl : k < l.length := by
        have : ¬ (k : Int) = l.length := by simpa using h22
        omega
      refine AT.skip ?_
      refine AT.openRow 0 100 101 31 5 rfl rfl (by omega) rfl fun cap hc1 hc2 => ?_
      refine AT.seq ?_
      refine AT.seq ?_
      refine AT.region ?_
      refine TrC.take rfl (step_move rfl rfl rfl) ?_
      refine TrC.take rfl (step_move rfl rfl rfl) ?_
      refine TrC.take rfl (step_addI rfl rfl rfl (by omega) (by simp; omega) rfl) ?_
      refine TrC.take rfl (step_move rfl rfl rfl) ?_
      refine TrC.take rfl (step_capS rfl rfl sl22 rfl) ?_
      refine TrC.take rfl (step_bin rfl rfl rfl rfl rfl) ?_
      refine TrC.done ?_
      refine AT.cond rfl (fun h31 => ?_) (fun h31 => ?_)
      · have hcap : cap < l.length + 1 := by
          have : (cap : Int) < (l.length : Int) + 1 := by simpa using h31
          omega
        refine AT.seq ?_
        refine AT.region ?_
        refine TrC.take rfl (step_move rfl rfl rfl) ?_
        refine TrC.take rfl (step_move rfl rfl rfl) ?_
        refine TrC.take rfl (step_sliceS 0 k cap rfl rfl (.none _) (.some rfl (by first | omega | (simp; done) | (simp; omega))) (.none _) (by first | exact fun _ => rfl | exact fun h => nomatch h) sl22 (by omega) (by omega) (by omega) rfl) ?_
        refine TrC.take rfl (step_move rfl rfl rfl) ?_
        refine TrC.take rfl (step_move rfl rfl rfl) ?_
        refine TrC.take rfl (step_addI rfl rfl rfl (by omega) (by simp; omega) rfl) ?_
        refine TrC.take rfl (step_move rfl rfl rfl) ?_
        refine TrC.take rfl (step_subI rfl rfl rfl (by simp; omega) (by simp; omega) rfl) ?_
        refine TrC.take rfl (step_appendZ (cnt := l.length + 1 - k) (.agg [.i 0, .b false, .i 0, .i 0, .b false]) rfl rfl rfl rfl (by omega) rfl (by simp; omega) (by omega) sl22 in3 ze31 rfl rfl rfl rfl rfl (by rw [show k - 0 + (l.length + 1 - k) = l.length + 1 from by omega]; exact hbig) rfl rfl) ?_
        refine TrC.take rfl (step_assign rfl rfl rfl) ?_
        refine TrC.done ?_
        have hl0 : (l.take (k - 0) ++ List.replicate (l.length + 1 - k) (T.agg [.i 0, .b false, .i 0, .i 0, .b false])).length = l.length + 1 := by simp; omega
        have hl1 : (Abs.put (l.take (k - 0) ++ List.replicate (l.length + 1 - k) (T.agg [.i 0, .b false, .i 0, .i 0, .b false])) (0 + k) ([x].take 1)).length = l.length + 1 := by rw [put_len, hl0]; rw [hl0]; simp; omega
        obtain ⟨L, hL⟩ : ∃ L, l.take (k - 0) ++ List.replicate (l.length + 1 - k) (T.agg [.i 0, .b false, .i 0, .i 0, .b false]) = L := ⟨_, rfl⟩
        rw [hL] at hl0 hl1
        refine AT.openRow' 9 40 103 31 5 rfl rfl L (l.length + 1) hL hl0 (by omega) rfl fun cap2 hd1 hd2 => ?_
        refine AT.seq ?_
        refine AT.region ?_
        refine TrC.take rfl (step_move rfl rfl rfl) ?_
        refine TrC.take rfl (step_move rfl rfl rfl) ?_
        refine TrC.take rfl (step_sliceS k (l.length + 1) cap2 rfl rfl (.some rfl (by first | omega | (simp; done) | (simp; omega))) (.none _) (.none _) (by first | exact fun _ => rfl | exact fun h => nomatch h) sl22 (by omega) (by omega) (by omega) rfl) ?_
        refine TrC.take rfl (step_move rfl rfl rfl) ?_
        refine TrC.take rfl (step_copyS (m := 1) rfl rfl rfl (.h rfl (by simp)) (by simp; omega) (by omega) sl22 rfl) ?_
        refine TrC.done ?_
        refine AT.seq ?_
        refine AT.regionD mixed rfl ?_
        refine TrC.take rfl (step_move rfl rfl rfl) ?_
        refine TrC.take rfl (step_move rfl rfl rfl) ?_
        refine TrC.take rfl (step_move rfl rfl rfl) ?_
        refine TrC.take rfl (step_addI rfl rfl rfl (by omega) (by simp; omega) rfl) ?_
        refine TrC.take rfl (step_sliceS (k + 1) (l.length + 1) cap2 rfl rfl (.some rfl (by first | omega | (simp; done) | (simp; omega))) (.none _) (.none _) (by first | exact fun _ => rfl | exact fun h => nomatch h) sl22 (by omega) (by omega) (by omega) rfl) ?_
        refine TrC.take rfl (step_move rfl rfl rfl) ?_
        refine TrC.take rfl (step_move rfl rfl rfl) ?_
        refine TrC.take rfl (step_sliceS k l.length cap rfl rfl (.some rfl (by first | omega | (simp; done) | (simp; omega))) (.none _) (.none _) (by first | exact fun _ => rfl | exact fun h => nomatch h) sl22 (by omega) (by omega) (by omega) rfl) ?_
        refine TrC.take rfl (step_copyS (m := l.length - k) rfl rfl rfl (.s rfl (by omega) (by omega)) (by omega) (by rw [hl1]; omega) sl22 rfl) ?_
        refine TrC.doneD rfl ?_
        refine AT.seq ?_
        refine AT.region ?_
        refine TrC.take rfl (step_move rfl rfl rfl) ?_
        refine TrC.take rfl (step_assign rfl rfl rfl) ?_
        refine TrC.done ?_
        refine AT.closeRow 6 200 rfl rfl (by omega) (by rw [put_len] <;> rw [hl1] <;> simp <;> omega) rfl ?_
        refine AT.ret ?_
        exact RetG.one [(300, 200)] rfl (.tmp rfl) (.h rfl) (.cons rfl (.row (by subst hL; rw [← insert_list1 (ze := T.agg [.i 0, .b false, .i 0, .i 0, .b false]) hkl]; congr 1; omega)) .nil) rfl rfl
      · have hcap : l.length + 1 ≤ cap := by
          have : ¬ (cap : Int) < (l.length : Int) + 1 := by simpa using h31
          omega
        refine AT.skip ?_
        refine AT.seq ?_
        refine AT.region ?_
        refine TrC.take rfl (step_move rfl rfl rfl) ?_
        refine TrC.take rfl (step_move rfl rfl rfl) ?_
        refine TrC.take rfl (step_move rfl rfl rfl) ?_
        refine TrC.take rfl (step_addI rfl rfl rfl (by omega) (by simp; omega) rfl) ?_
        refine TrC.take rfl (step_sliceS 0 (l.length + 1) cap rfl rfl (.none _) (.some rfl (by first | omega | (simp; done) | (simp; omega))) (.none _) (by first | exact fun _ => rfl | exact fun h => nomatch h) sl22 (by omega) (by omega) (by omega) rfl) ?_
        refine TrC.take rfl (step_assign rfl rfl rfl) ?_
        refine TrC.done ?_
        refine AT.seq ?_
        refine AT.seq ?_
        refine AT.region ?_
        refine TrC.take rfl (step_move rfl rfl rfl) ?_
        refine TrC.take rfl (step_move rfl rfl rfl) ?_
        refine TrC.take rfl (step_move rfl rfl rfl) ?_
        refine TrC.take rfl (step_move rfl rfl rfl) ?_
        refine TrC.take rfl (step_addI rfl rfl rfl (by omega) (by simp; omega) rfl) ?_
        refine TrC.take rfl (step_sliceS (k + 1) (l.length + 1 - 0) (cap - 0) rfl rfl (.some rfl (by first | omega | (simp; done) | (simp; omega))) (.none _) (.none _) (by first | exact fun _ => rfl | exact fun h => nomatch h) sl22 (by omega) (by omega) (by omega) rfl) ?_
        refine TrC.take rfl (step_overlaps (t := 22) (t' := 4) rfl Try.func48 (by kernel_rfl) (by kernel_rfl) (by kernel_rfl) (by kernel_rfl) rfl rfl (by simp) rfl rfl rfl (by omega) sl22 rfl rfl) ?_
        refine TrC.take rfl (step_not rfl rfl rfl) ?_
        refine TrC.done ?_
        refine AT.condT rfl ?_
        refine AT.seq ?_
        refine AT.regionD mixed rfl ?_
        refine TrC.take rfl (step_move rfl rfl rfl) ?_
        refine TrC.take rfl (step_move rfl rfl rfl) ?_
        refine TrC.take rfl (step_move rfl rfl rfl) ?_
        refine TrC.take rfl (step_addI rfl rfl rfl (by omega) (by simp; omega) rfl) ?_
        refine TrC.take rfl (step_sliceS (k + 1) (l.length + 1 - 0) (cap - 0) rfl rfl (.some rfl (by first | omega | (simp; done) | (simp; omega))) (.none _) (.none _) (by first | exact fun _ => rfl | exact fun h => nomatch h) sl22 (by omega) (by omega) (by omega) rfl) ?_
        refine TrC.take rfl (step_move rfl rfl rfl) ?_
        refine TrC.take rfl (step_move rfl rfl rfl) ?_
        refine TrC.take rfl (step_sliceS k (l.length + 1 - 0) (cap - 0) rfl rfl (.some rfl (by first | omega | (simp; done) | (simp; omega))) (.none _) (.none _) (by first | exact fun _ => rfl | exact fun h => nomatch h) sl22 (by omega) (by omega) (by omega) rfl) ?_
        refine TrC.take rfl (step_copyS (m := l.length - k) rfl rfl rfl (.s rfl (by omega) (by omega)) (by omega) (by omega) sl22 rfl) ?_
        refine TrC.doneD rfl ?_
        have hl1 : (Abs.put l (0 + 0 + (k + 1)) ((l.drop (0 + 0 + k)).take (l.length - k))).length = l.length + 1 := by simp [Abs.put]; omega
        refine AT.seq ?_
        refine AT.region ?_
        refine TrC.take rfl (step_move rfl rfl rfl) ?_
        refine TrC.take rfl (step_move rfl rfl rfl) ?_
        refine TrC.take rfl (step_sliceS k (l.length + 1 - 0) (cap - 0) rfl rfl (.some rfl (by first | omega | (simp; done) | (simp; omega))) (.none _) (.none _) (by first | exact fun _ => rfl | exact fun h => nomatch h) sl22 (by omega) (by omega) (by omega) rfl) ?_
        refine TrC.take rfl (step_move rfl rfl rfl) ?_
        refine TrC.take rfl (step_copyS (m := 1) rfl rfl rfl (.h rfl (by simp)) (by simp; omega) (by rw [hl1]; omega) sl22 rfl) ?_
        refine TrC.done ?_
        refine AT.seq ?_
        refine AT.region ?_
        refine TrC.take rfl (step_move rfl rfl rfl) ?_
        refine TrC.take rfl (step_assign rfl rfl rfl) ?_
        refine TrC.done ?_
        refine AT.closeRow 6 200 rfl rfl (by omega) (by rw [put_len] <;> rw [hl1] <;> simp <;> omega) rfl ?_
        refine AT.ret ?_
        exact RetG.one [(300, 200)] rfl (.tmp rfl) (.h rfl) (.cons rfl (.row (insert_list2 hkl)) .nil) rfl rfl
theorem C47 (l : List T) (g : FuncId) (caps : List T) (p : T → Bool) (hl : l.length ≤ 9223372036854775806) (he : ∀ x ∈ l, ∃ cs, x = .agg cs ∧ cs.length = 5) (hp : ∀ x ∈ l, Has Try.prog g ([x] ++ caps) (.b (p x))) :
    HasG Try.prog 47 [] [.h 100, .t (.clo g caps)] [(100, .row 31 5 l)] (.h 300) [(300, .row 31 5 (l.filter fun x => !p x))] := by
  refine HasG.intro 42 Try.func47 (by kernel_rfl) rfl rfl rfl fun w0 ok0 keep av => ?_
  refine AT.seq ?_
  refine AT.region ?_
  refine TrC.take rfl (step_assignN (sz := 5) rfl rfl) ?_
  refine TrC.done ?_
  refine AT.seq ?_
  refine AT.region ?_
  refine TrC.take rfl (step_move rfl rfl rfl) ?_
  refine TrC.take rfl (step_move rfl rfl rfl) ?_
  refine TrC.take rfl (step_callB rfl rfl (C42 l g caps p hl he hp) (ConvL.refl _) rfl) ?_
  refine TrC.take rfl (step_assign rfl rfl rfl) ?_
  refine TrC.done ?_
  refine AT.seq ?_
  refine AT.seq ?_
  refine AT.region ?_
  refine TrC.take rfl (step_move rfl rfl rfl) ?_
  refine TrC.take rfl (step_bin rfl rfl rfl rfl rfl) ?_
  refine TrC.done ?_
  refine AT.cond rfl (fun h12 => ?_) (fun h12 => ?_)
  · have hnone : l.findIdx? p = none := by
      cases hf : l.findIdx? p with
      | none => rfl
      | some i => exfalso; rw [hf] at h12; simp at h12 <;> omega
    refine AT.seq ?_
    refine AT.region ?_
    refine TrC.take rfl (step_move rfl rfl rfl) ?_
    refine TrC.take rfl (step_assign rfl rfl rfl) ?_
    refine TrC.done ?_
    refine AT.ret ?_
    exact RetG.one [(300, 100)] rfl (.tmp rfl) (.h rfl) (.cons rfl (.row (filter_of_none hnone).symm) .nil) rfl rfl
  · obtain ⟨k0, hk0⟩ : ∃ k0, l.findIdx? p = some k0 := by
      cases hf : l.findIdx? p with
      | none => rw [hf] at h12; simp at h12
      | some i => exact ⟨i, rfl⟩
    obtain ⟨hkl, hkp, hkb⟩ := List.findIdx?_eq_some_iff_getElem.1 hk0
    have hpre : l.take k0 = (l.take (k0 + 1)).filter (fun x => !p x) := del_start hk0
    refine AT.skip ?_
    refine AT.openRow 0 100 101 31 5 rfl rfl (by omega) rfl fun cap hc1 hc2 => ?_
    refine AT.spell 5 rfl (show T.v (.int .i64 (match l.findIdx? p with | some i => (i : Int) | none => -1)) = .v (.int .i64 k0) by rw [hk0]) ?_
    refine AT.seq ?_
    refine AT.seq ?_
    refine AT.region ?_
    refine TrC.take rfl (step_move rfl rfl rfl) ?_
    refine TrC.take rfl (step_addI rfl rfl rfl (by omega) (by omega) rfl) ?_
    refine TrC.take rfl (step_assign rfl rfl rfl) ?_
    refine TrC.done ?_
    refine AT.block ?_
    refine AT.loopP (fun ix : Nat × Nat × List T => DelInv p l ix.1 ix.2.1 ix.2.2) (fun (i, j, L) => mkS [(0, .s 101 5 0 l.length cap), (1, .t (.clo g caps)), (5, .t (.i i)), (6, .t (.i j))] [(101, .buf 31 5 cap L)]) (fun ix => l.length - ix.2.1) (k0, k0 + 1, l) ⟨Nat.lt_succ_self _, hkl, rfl, hpre, rfl⟩
      (fun a w hs => Sat.wk [] (.cons (.s rfl) (.cons (.t (.refl _)) (.cons (.t (.refl _)) (.cons (.t (conv_i (by simp))) .nil)))) (.cons rfl (.buf rfl) .nil) rfl rfl a w hs) (fun ix hix => ?_)
    obtain ⟨i, j, L⟩ := ix
    obtain ⟨hij, hjl, hL, hA, hD⟩ := hix
    simp only at hij hjl hL hA hD
    refine AT.seq ?_
    refine AT.seq ?_
    refine AT.region ?_
    refine TrC.take rfl (step_move rfl rfl rfl) ?_
    refine TrC.take rfl (step_move rfl rfl rfl) ?_
    refine TrC.take rfl (step_lenS rfl rfl sl22 rfl) ?_
    refine TrC.take rfl (step_bin rfl rfl rfl rfl rfl) ?_
    refine TrC.done ?_
    refine AT.cond rfl (fun h19 => ?_) (fun h19 => ?_)
    · have hlt : j < l.length := by simpa using h19
      obtain ⟨cs, hcs, hcl⟩ := he l[j] (List.getElem_mem hlt)
      obtain ⟨a0, a1, a2, a3, a4, rfl⟩ : ∃ a0 a1 a2 a3 a4, cs = [a0, a1, a2, a3, a4] := by
        match cs, hcl with | [xa0, xa1, xa2, xa3, xa4], _ => exact ⟨xa0, xa1, xa2, xa3, xa4, rfl⟩
      have hget : L[j]? = some (.agg [a0, a1, a2, a3, a4]) := by rw [← hcs]; exact del_get hD hlt
      have hpi := hp l[j] (List.getElem_mem hlt)
      rw [hcs] at hpi
      refine AT.skip ?_
      refine AT.seq ?_
      refine AT.block ?_
      refine AT.seq ?_
      refine AT.region ?_
      refine TrC.take rfl (step_move rfl rfl rfl) ?_
      refine TrC.take rfl (step_move rfl rfl rfl) ?_
      refine TrC.take rfl (step_indexAddrS j rfl rfl rfl rfl sl22 hlt rfl) ?_
      refine TrC.take rfl (step_loadBN (k := j) rfl rfl rfl (by rw [Nat.zero_add]) ty31 hget rfl) ?_
      refine TrC.take rfl (step_alloc rfl rfl ze31 rfl rfl rfl) ?_
      refine TrC.take rfl (step_storeP rfl rfl rfl rfl rfl (.inl rfl) ty31 rfl rfl rfl) ?_
      refine TrC.done ?_
      refine AT.seq ?_
      refine AT.region ?_
      refine TrC.take rfl (step_move rfl rfl rfl) ?_
      refine TrC.take rfl (step_loadPN rfl rfl rfl ty31 rfl rfl rfl) ?_
      refine TrC.take rfl (step_callC rfl rfl (.refl _) rfl hpi (ConvL.refl _) rfl) ?_
      refine TrC.take rfl (step_not rfl rfl rfl) ?_
      refine TrC.done ?_
      refine AT.cond rfl (fun h29 => ?_) (fun h29 => ?_)
      · have hpf : p l[j] = false := by rw [hcs]; simpa using h29
        refine AT.seq ?_
        refine AT.region ?_
        refine TrC.take rfl (step_move rfl rfl rfl) ?_
        refine TrC.take rfl (step_move rfl rfl rfl) ?_
        refine TrC.take rfl (step_loadPN rfl rfl rfl ty31 rfl rfl rfl) ?_
        refine TrC.take rfl (step_indexAddrS i rfl rfl rfl rfl sl22 (by omega) rfl) ?_
        refine TrC.take rfl (step_storeBN (k := i) rfl rfl rfl (by rw [Nat.zero_add]) (by omega) rfl ty31 rfl rfl) ?_
        refine TrC.done ?_
        refine AT.region ?_
        refine TrC.take rfl (step_move rfl rfl rfl) ?_
        refine TrC.take rfl (step_addI rfl rfl rfl (by omega) (by omega) rfl) ?_
        refine TrC.take rfl (step_assign rfl rfl rfl) ?_
        refine TrC.done ?_
        refine AT.region ?_
        refine TrC.take rfl (step_move rfl rfl rfl) ?_
        refine TrC.take rfl (step_addI rfl rfl rfl (by omega) (by omega) rfl) ?_
        refine TrC.take rfl (step_assign rfl rfl rfl) ?_
        refine TrC.done ?_
        exact ⟨(i + 1, j + 1, L.set i (.agg [a0, a1, a2, a3, a4])), by rw [← hcs]; exact del_keep ⟨hij, hjl, hL, hA, hD⟩ hlt hpf, by show l.length - (j + 1) < l.length - j; omega,
          Sat.wk [] (.cons (.s rfl) (.cons (.t (.refl _)) (.cons (.t (conv_i (by simp))) (.cons (.t (conv_i (by simp))) .nil)))) (.cons rfl (.buf rfl) .nil) rfl rfl⟩
      · have hpt : p l[j] = true := by rw [hcs]; simpa using h29
        refine AT.skip ?_
        refine AT.region ?_
        refine TrC.take rfl (step_move rfl rfl rfl) ?_
        refine TrC.take rfl (step_addI rfl rfl rfl (by omega) (by omega) rfl) ?_
        refine TrC.take rfl (step_assign rfl rfl rfl) ?_
        refine TrC.done ?_
        exact ⟨(i, j + 1, L), del_drop ⟨hij, hjl, hL, hA, hD⟩ hlt hpt, by show l.length - (j + 1) < l.length - j; omega,
          Sat.wk [] (.cons (.s rfl) (.cons (.t (.refl _)) (.cons (.t (.refl _)) (.cons (.t (conv_i (by simp))) .nil)))) (.cons rfl (.buf rfl) .nil) rfl rfl⟩
    · have hge : ¬ j < l.length := by simpa using h19
      refine AT.exit (Or.inl ⟨rfl, ?_⟩)
      refine AT.seq ?_
      refine AT.region ?_
      refine TrC.take rfl (step_move rfl rfl rfl) ?_
      refine TrC.take rfl (step_move rfl rfl rfl) ?_
      refine TrC.take rfl (step_sliceS i l.length cap rfl rfl (.some rfl (by first | omega | (simp; done) | (simp; omega))) (.none _) (.none _) (by first | exact fun _ => rfl | exact fun h => nomatch h) sl22 (by omega) (by omega) (by omega) rfl) ?_
      refine TrC.take rfl (step_clearS rfl rfl rfl sl22 ze31 rfl rfl rfl rfl) ?_
      refine TrC.done ?_
      refine AT.seq ?_
      refine AT.region ?_
      refine TrC.take rfl (step_move rfl rfl rfl) ?_
      refine TrC.take rfl (step_move rfl rfl rfl) ?_
      refine TrC.take rfl (step_sliceS 0 i cap rfl rfl (.none _) (.some rfl (by first | omega | (simp; done) | (simp; omega))) (.none _) (by first | exact fun _ => rfl | exact fun h => nomatch h) sl22 (by omega) (by omega) (by omega) rfl) ?_
      refine TrC.take rfl (step_assign rfl rfl rfl) ?_
      refine TrC.done ?_
      refine AT.closeRow 4 200 rfl rfl (by omega) (by simp; omega) rfl ?_
      refine AT.ret ?_
      exact RetG.one [(300, 200)] rfl (.tmp rfl) (.h rfl) (.cons rfl (.row (del_end ⟨hij, hjl, hL, hA, hD⟩ hge)) .nil) rfl rfl
end Go.Proofs.Ytgblfhobiibeaaa.Acl

/- What the functions of the chapter on lists of rights compute, in plain Lean. No condition. -/
set_option linter.unusedVariables false
namespace Go.Proofs.Ytgblfhobiibeaaa.Acl
open Go.Proofs.Ytgblfhobiibeaaa.Abs

structure Ace where
  who : Int
  al : Bool
  rt : Int
  rc : Int
  gv : Bool
  deriving DecidableEq
structure Mk where
  who : Int
  al : Bool
  gv : Bool
  rc : Int
  deriving DecidableEq
def a0 : Ace := ⟨0, false, 0, 0, false⟩
def mk (a : Ace) : Mk := ⟨a.who, a.al, a.gv, a.rc⟩
def encA (a : Ace) : T := .agg [.i a.who, .b a.al, .i a.rt, .i a.rc, .b a.gv]
def encM (m : Mk) : T := .agg [.i m.who, .b m.al, .b m.gv, .i m.rc]
def marked (a b : Ace) : Bool := decide (mk a = mk b)
def right (a : Ace) : Bool := decide (-2 ≤ a.who) && decide (a.who ≤ 999) && decide (1 ≤ a.rt) && decide (a.rt ≤ 15) && decide (1 ≤ a.rc) && decide (a.rc ≤ 3)
def iAnd (m n : Int) : Int := IntKind.i64.wrap (BitVec.ofInt IntKind.i64.bits m &&& BitVec.ofInt IntKind.i64.bits n).toNat
def iOr (m n : Int) : Int := IntKind.i64.wrap (BitVec.ofInt IntKind.i64.bits m ||| BitVec.ofInt IntKind.i64.bits n).toNat
def iAndNot (m n : Int) : Int := IntKind.i64.wrap (BitVec.ofInt IntKind.i64.bits m &&& ~~~ BitVec.ofInt IntKind.i64.bits n).toNat
def counts (a : Ace) (who owner : Int) : Bool := (decide (a.rc = 1) || decide (a.rc = 2)) && (decide (a.who = who) || decide (a.who = -1) || decide (a.who = -2) && decide (who = owner))
def hasP (who owner right : Int) (a : Ace) : Bool := counts a who owner && decide (iAnd a.rt right ≠ 0)
def has (l : List Ace) (who owner right : Int) : Bool :=
  match l.find? (hasP who owner right) with
  | some a => a.al
  | none => false
def pw : Nat → Int
  | 0 => 1
  | 1 => 2
  | 2 => 4
  | 3 => 8
  | _ => 16
def hasR (l : List Ace) (who owner right : Int) : Bool := has l who owner right || decide (who = 0) || decide (right = 8) && decide (who = owner)
def rsum (l : List Ace) (who owner : Int) : Nat → Int
  | 0 => 0
  | i + 1 => rsum l who owner i + (if hasR l who owner (pw i) then pw i else 0)
def rights (l : List Ace) (who owner : Int) : Int := rsum l who owner 4
def allows (l : List Ace) (who owner want : Int) : Bool := decide (iAndNot want (rights l who owner) = 0)
/-- What an entry does to the rights that are given, and to those that are open still. -/
def rstep (who owner : Int) (s : Int × Int) (a : Ace) : Int × Int :=
  if counts a who owner then (if a.al then iOr s.1 (iAnd s.2 a.rt) else s.1, iAndNot s.2 a.rt) else s
def at' (l : List Ace) (e : Ace) : Int :=
  match l.find? (fun a => marked a e) with
  | some a => a.rt
  | none => 0
def own (l : List Ace) (g : Bool) : List Ace := l.filter (fun a => a.gv == g)
def getA (l : List Ace) (i : Nat) : Ace := l.getD i a0
def okA (l : List Ace) (i : Nat) : Bool := right (getA l i) && (decide (i = 0) || !((getA l (i - 1)).gv && !(getA l i).gv)) && decide (∀ k, k < i → marked (getA l k) (getA l i) = false)
def valid (l : List Ace) : Bool := decide (∀ i, i < l.length → okA l i = true) && decide (l.length ≤ 16)

theorem find_found {α : Type} {p : α → Bool} {l : List α} {i : Nat} (h : i < l.length) (hp : p l[i] = true) (hb : ∀ j (h : j < l.length), j < i → p l[j] = false) : l.find? p = some l[i] := by
  rw [List.find?_eq_some_iff_getElem]
  exact ⟨hp, i, h, rfl, fun j hj => by simp [hb j (by omega) hj]⟩
theorem find_no {α : Type} {p : α → Bool} {l : List α} (hb : ∀ j (h : j < l.length), p l[j] = false) : l.find? p = none := by
  rw [List.find?_eq_none]
  intro x hx
  obtain ⟨j, hj, rfl⟩ := List.getElem_of_mem hx
  simp [hb j hj]
theorem getA_lt {l : List Ace} {i : Nat} (h : i < l.length) : getA l i = l[i] := by simp [getA, List.getD_eq_getElem?_getD, h]
theorem take_snoc {α : Type} {l : List α} {j : Nat} (h : j < l.length) : l.take (j + 1) = l.take j ++ [l[j]] := by
  rw [List.take_add_one, List.getElem?_eq_getElem h]; rfl
theorem mk_eq (a b : Ace) : decide (mk a = mk b) = (decide (a.who = b.who) && (a.al == b.al) && decide (a.rc = b.rc) && (a.gv == b.gv)) := by
  rw [Bool.eq_iff_iff]
  simp only [mk, decide_eq_true_eq, Bool.and_eq_true, beq_iff_eq, Mk.mk.injEq]
  constructor
  · rintro ⟨h1, h2, h3, h4⟩; exact ⟨⟨⟨h1, h2⟩, h4⟩, h3⟩
  · rintro ⟨⟨⟨h1, h2⟩, h4⟩, h3⟩; exact ⟨h1, h2, h3, h4⟩
theorem pw_bound (i : Nat) : 1 ≤ pw i ∧ pw i ≤ 16 := by
  unfold pw; split <;> omega
theorem pw_double {i : Nat} (h : i < 4) : pw (i + 1) = 2 * pw i := by
  match i, h with
  | 0, _ => rfl
  | 1, _ => rfl
  | 2, _ => rfl
  | 3, _ => rfl
theorem pw_le {i : Nat} (h : i ≤ 4) (h8 : pw i ≤ 8) : i < 4 := by
  match i, h with
  | 0, _ => omega
  | 1, _ => omega
  | 2, _ => omega
  | 3, _ => omega
  | 4, _ => simp [pw] at h8
theorem pw_gt {i : Nat} (h : i ≤ 4) (h8 : 8 < pw i) : i = 4 := by
  match i, h with
  | 0, _ => simp [pw] at h8
  | 1, _ => simp [pw] at h8
  | 2, _ => simp [pw] at h8
  | 3, _ => simp [pw] at h8
  | 4, _ => rfl
theorem rsum_bound (l : List Ace) (who owner : Int) : ∀ i, i ≤ 4 → 0 ≤ rsum l who owner i ∧ rsum l who owner i < pw i
  | 0, _ => by simp [rsum, pw]
  | i + 1, h => by
    have ih := rsum_bound l who owner i (by omega)
    have h2 := pw_double (i := i) (by omega)
    have h3 := pw_bound i
    simp only [rsum]
    split <;> omega
end Go.Proofs.Ytgblfhobiibeaaa.Acl

/- Two ways to count rights come to the same; plain Lean. No condition. -/
set_option linter.unusedVariables false
set_option linter.unusedSimpArgs false
namespace Go.Proofs.Ytgblfhobiibeaaa.Acl

def B (m : Int) : BitVec 64 := BitVec.ofInt 64 m
theorem wrap_toNat (x : BitVec 64) : IntKind.i64.wrap (x.toNat : Int) = x.toInt := by
  have hlt := x.isLt
  have hm : (x.toNat : Int) % (2 ^ 64 : Int) = x.toNat := Int.emod_eq_of_lt (by omega) (by omega)
  show (if (true && decide ((x.toNat : Int) % (2 ^ 64 : Int) ≥ (2 ^ 63 : Int))) = true then (x.toNat : Int) % (2 ^ 64 : Int) - (2 ^ 64 : Int) else (x.toNat : Int) % (2 ^ 64 : Int)) = x.toInt
  rw [hm, BitVec.toInt_eq_toNat_cond]
  simp only [Bool.true_and, decide_eq_true_eq]
  split <;> split <;> omega
theorem iAnd_eq (m n : Int) : iAnd m n = (B m &&& B n).toInt := wrap_toNat _
theorem iOr_eq (m n : Int) : iOr m n = (B m ||| B n).toInt := wrap_toNat _
theorem iAndNot_eq (m n : Int) : iAndNot m n = (B m &&& ~~~ B n).toInt := wrap_toNat _
theorem B_toInt (x : BitVec 64) : B x.toInt = x := by simp [B]
theorem B_and (m n : Int) : B (iAnd m n) = B m &&& B n := by rw [iAnd_eq, B_toInt]
theorem B_or (m n : Int) : B (iOr m n) = B m ||| B n := by rw [iOr_eq, B_toInt]
theorem B_andNot (m n : Int) : B (iAndNot m n) = B m &&& ~~~ B n := by rw [iAndNot_eq, B_toInt]
def tb (m : Int) (k : Nat) : Bool := (B m).getLsbD k
theorem tb_and (m n : Int) (k : Nat) : tb (iAnd m n) k = (tb m k && tb n k) := by simp [tb, B_and]
theorem tb_or (m n : Int) (k : Nat) : tb (iOr m n) k = (tb m k || tb n k) := by simp [tb, B_or]
theorem tb_andNot (m n : Int) (k : Nat) (h : k < 64) : tb (iAndNot m n) k = (tb m k && !tb n k) := by simp [tb, B_andNot, h]
theorem B_pw {k : Nat} (h : k < 4) : B (pw k) = BitVec.twoPow 64 k := by
  match k, h with
  | 0, _ => rfl
  | 1, _ => rfl
  | 2, _ => rfl
  | 3, _ => rfl
theorem toInt_zero (x : BitVec 64) : x.toInt = 0 ↔ x = 0#64 := by
  constructor
  · intro h; have := B_toInt x; rw [h] at this; rw [← this]; rfl
  · intro h; rw [h]; rfl
theorem iAnd_pw (m : Int) {k : Nat} (h : k < 4) : (iAnd m (pw k) ≠ 0) ↔ tb m k = true := by
  rw [iAnd_eq, ne_eq, toInt_zero, B_pw h, BitVec.and_twoPow]
  unfold tb
  cases hb : (B m).getLsbD k with
  | false => simp
  | true =>
    simp only [if_true, iff_true]
    match k, h with
    | 0, _ => decide
    | 1, _ => decide
    | 2, _ => decide
    | 3, _ => decide
theorem val16 : ∀ n, n < 16 → (BitVec.ofNat 64 n).toInt = (if (BitVec.ofNat 64 n).getLsbD 0 then 1 else 0) + (if (BitVec.ofNat 64 n).getLsbD 1 then 2 else 0) + (if (BitVec.ofNat 64 n).getLsbD 2 then 4 else 0) + (if (BitVec.ofNat 64 n).getLsbD 3 then 8 else 0) := by decide
theorem small_val {m : Int} (hm : (B m).toInt = m) (h : ∀ k, 4 ≤ k → tb m k = false) : m = (if tb m 0 then 1 else 0) + (if tb m 1 then 2 else 0) + (if tb m 2 then 4 else 0) + (if tb m 3 then 8 else 0) := by
  have hlt : (B m).toNat < 2 ^ 4 := by
    refine Nat.lt_pow_two_of_testBit _ fun i hi => ?_
    exact h i hi
  have e : BitVec.ofNat 64 (B m).toNat = B m := by simp
  have := val16 (B m).toNat (by omega)
  rw [e, hm] at this
  exact this
theorem tb15 : ∀ k, tb 15 k = decide (k < 4) := by
  intro k
  by_cases h : k < 64
  · have : ∀ k : Fin 64, tb 15 k.1 = decide (k.1 < 4) := by decide
    exact this ⟨k, h⟩
  · have h1 : tb 15 k = false := by unfold tb; exact BitVec.getLsbD_of_ge _ _ (by omega)
    rw [h1]; simp; omega
theorem tb8 : ∀ k, tb 8 k = decide (k = 3) := by
  intro k
  by_cases h : k < 64
  · have : ∀ k : Fin 64, tb 8 k.1 = decide (k.1 = 3) := by decide
    exact this ⟨k, h⟩
  · have h1 : tb 8 k = false := by unfold tb; exact BitVec.getLsbD_of_ge _ _ (by omega)
    rw [h1]; simp; omega
theorem tb0 (k : Nat) : tb 0 k = false := by simp [tb, B]
/-- Whether a bit was decided by some entry, and how. -/
theorem fold_bits (who owner : Int) (l : List Ace) : ∀ (r o : Int), (∀ k, 4 ≤ k → tb r k = false) → (∀ k, 4 ≤ k → tb o k = false) → (B r).toInt = r →
    (∀ k, 4 ≤ k → tb (l.foldl (rstep who owner) (r, o)).1 k = false) ∧ (B (l.foldl (rstep who owner) (r, o)).1).toInt = (l.foldl (rstep who owner) (r, o)).1 ∧
      ∀ k, k < 4 → tb (l.foldl (rstep who owner) (r, o)).1 k = (tb r k || (tb o k && has l who owner (pw k))) := by
  induction l with
  | nil =>
    intro r o h1 h2 h3
    exact ⟨h1, h3, fun k hk => by simp [has]⟩
  | cons a l ih =>
    intro r o h1 h2 h3
    rw [List.foldl_cons]
    unfold rstep
    by_cases hc : counts a who owner = true
    · rw [if_pos hc]
      have h2' : ∀ k, 4 ≤ k → tb (iAndNot o a.rt) k = false := by
        intro k hk
        by_cases h64 : k < 64
        · rw [tb_andNot _ _ _ h64, h2 k hk]; simp
        · unfold tb; exact BitVec.getLsbD_of_ge _ _ (by omega)
      have h1' : ∀ k, 4 ≤ k → tb (if a.al then iOr r (iAnd o a.rt) else r) k = false := by
        intro k hk
        split
        · rw [tb_or, tb_and, h1 k hk, h2 k hk]; simp
        · exact h1 k hk
      have h3' : (B (if a.al then iOr r (iAnd o a.rt) else r)).toInt = (if a.al then iOr r (iAnd o a.rt) else r) := by
        split
        · rw [B_or, ← iOr_eq]
        · exact h3
      obtain ⟨g1, g2, g3⟩ := ih _ _ h1' h2' h3'
      refine ⟨g1, g2, fun k hk => ?_⟩
      have e := g3 k hk
      unfold rstep at e
      rw [e, tb_andNot _ _ _ (by omega)]
      have hh : has (a :: l) who owner (pw k) = if tb a.rt k then a.al else has l who owner (pw k) := by
        unfold has
        rw [List.find?_cons]
        have hp : hasP who owner (pw k) a = tb a.rt k := by
          unfold hasP
          rw [hc, Bool.true_and, Bool.eq_iff_iff, decide_eq_true_eq]
          exact iAnd_pw a.rt hk
        rw [hp]
        cases tb a.rt k <;> rfl
      rw [hh]
      cases hal : a.al <;> cases htb : tb a.rt k <;> simp [tb_or, tb_and, htb]
    · rw [if_neg hc]
      obtain ⟨g1, g2, g3⟩ := ih r o h1 h2 h3
      refine ⟨g1, g2, fun k hk => ?_⟩
      have e := g3 k hk
      unfold rstep at e
      rw [e]
      have hh : has (a :: l) who owner (pw k) = has l who owner (pw k) := by
        unfold has
        rw [List.find?_cons]
        have hp : hasP who owner (pw k) a = false := by unfold hasP; simp [hc]
        rw [hp]
      rw [hh]
def rightsA (l : List Ace) (who owner : Int) : Int :=
  if who = 0 then 15 else (if who = owner then iOr (l.foldl (rstep who owner) (0, 15)).1 8 else (l.foldl (rstep who owner) (0, 15)).1)
theorem rights_eq (l : List Ace) (who owner : Int) : rightsA l who owner = rights l who owner := by
  have hsum : rights l who owner = (if hasR l who owner 1 then 1 else 0) + (if hasR l who owner 2 then 2 else 0) + (if hasR l who owner 4 then 4 else 0) + (if hasR l who owner 8 then 8 else 0) := by
    simp only [rights, rsum, pw]; omega
  rw [hsum]
  unfold rightsA
  by_cases h0 : who = 0
  · rw [if_pos h0]
    simp [hasR, h0]
  · rw [if_neg h0]
    obtain ⟨g1, g2, g3⟩ := fold_bits who owner l 0 15 (fun k _ => tb0 k) (fun k hk => by rw [tb15]; simp; omega) (by decide)
    have e : ∀ k, k < 4 → tb (l.foldl (rstep who owner) (0, 15)).1 k = has l who owner (pw k) := fun k hk => by rw [g3 k hk, tb0, tb15]; simp [hk]
    have e0 := e 0 (by omega); have e1 := e 1 (by omega); have e2 := e 2 (by omega); have e3 := e 3 (by omega)
    simp only [pw] at e0 e1 e2 e3
    by_cases ho : who = owner
    · rw [if_pos ho]
      have hk : ∀ k, 4 ≤ k → tb (iOr (l.foldl (rstep who owner) (0, 15)).1 8) k = false := fun k hk => by rw [tb_or, g1 k hk, tb8]; simp; omega
      rw [small_val (m := iOr (l.foldl (rstep who owner) (0, 15)).1 8) (by rw [B_or, ← iOr_eq]) hk]
      simp only [tb_or, tb8, e0, e1, e2, e3]
      simp [hasR, h0, ho]
      simp only [ho] at h0
      simp [h0]
    · rw [if_neg ho]
      rw [small_val g2 g1]
      simp only [e0, e1, e2, e3]
      simp [hasR, h0, ho]
theorem rights_range (l : List Ace) (who owner : Int) : 0 ≤ rights l who owner ∧ rights l who owner ≤ 15 := by
  have := rsum_bound l who owner 4 (by omega)
  simp only [pw] at this
  unfold rights; omega
end Go.Proofs.Ytgblfhobiibeaaa.Acl

/- Maps whose keys are marks. No condition. -/
set_option linter.unusedVariables false
set_option linter.unusedSimpArgs false
namespace Go.Proofs.Ytgblfhobiibeaaa.Acl
open Go.Proofs.Ytgblfhobiibeaaa.Abs Go.RowKit

def vM (m : Mk) : Value := .agg [.int .i64 m.who, .bool m.al, .bool m.gv, .int .i64 m.rc].toArray
def gm (ps : List (Mk × Value)) : List (Value × Value) := ps.map fun p => (vM p.1, p.2)
def isM (m : Mk) (p : Value × Value) : Bool :=
  match p.1 with
  | .agg cs => match cs.toList with
    | [.int .i64 w, .bool a, .bool g, .int .i64 r] => decide ((⟨w, a, g, r⟩ : Mk) = m)
    | _ => false
  | _ => false
theorem isM_vM (m m' : Mk) (v : Value) : isM m (vM m', v) = decide (m' = m) := rfl
theorem kval_encM (m : Mk) : kval (encM m) = some (vM m) := rfl
theorem under60 : ∃ fs, Try.prog.underlying 60 = some (.struct fs) ∧ ∀ m : Mk, keyFields Try.prog [.int .i64 m.who, .bool m.al, .bool m.gv, .int .i64 m.rc] fs.toList = true := by
  obtain ⟨fs, h1, h2⟩ : ∃ fs, Try.prog.underlying 60 = some (.struct fs) ∧ ∀ (a : Int) (b c : Bool) (d : Int), keyFields Try.prog [.int .i64 a, .bool b, .bool c, .int .i64 d] fs.toList = true := ⟨Try.prog.fieldsOf 60, by kernel_rfl, fun a b c d => by kernel_rfl⟩
  exact ⟨fs, h1, fun m => h2 _ _ _ _⟩
theorem find_gm (ps : List (Mk × Value)) (m : Mk) : (gm ps).findIdx? (isM m) = ps.findIdx? (fun p => decide (p.1 = m)) := by
  induction ps with
  | nil => rfl
  | cons p r ih =>
    show ((vM p.1, p.2) :: gm r).findIdx? (isM m) = _
    rw [List.findIdx?_cons, List.findIdx?_cons, ih, isM_vM]
theorem run_eqM {w : World} (m m' : Mk) : (Op.equal 60 (vM m) (vM m')).run Try.prog w = .ok (decide (m' = m)) w := by
  have h := run_eqa (P := Try.prog) (w := w) (eq60 m.who m'.who m.al m'.al m.gv m'.gv m.rc m'.rc) ty60
  have e : (m.who == m'.who && (m.al == m'.al && (m.gv == m'.gv && (m.rc == m'.rc && true)))) = decide (m' = m) := by
    rw [Bool.eq_iff_iff]
    cases m; cases m'
    simp only [Bool.and_eq_true, beq_iff_eq, decide_eq_true_eq, Mk.mk.injEq, and_true]
    constructor
    · rintro ⟨h1, h2, h3, h4⟩; exact ⟨h1.symm, h2.symm, h3.symm, h4.symm⟩
    · rintro ⟨h1, h2, h3, h4⟩; exact ⟨h1.symm, h2.symm, h3.symm, h4.symm⟩
  rw [← e]; exact h
theorem sameM (m : Mk) : Instr.sameBits 10000 (vM m) (vM m) = true := by
  have h : ∀ (a : Int) (b c : Bool) (d : Int), Instr.sameBits 10000 (.agg [.int .i64 a, .bool b, .bool c, .int .i64 d].toArray) (.agg [.int .i64 a, .bool b, .bool c, .int .i64 d].toArray) = true := by
    intro a b c d
    show Instr.sameBits (9999 + 1) _ _ = true
    simp [Instr.sameBits]
  exact h _ _ _ _
theorem keyAt (ps : List (Mk × Value)) (m : Mk) : KeyAt Try.prog 60 (gm ps) (vM m) (ps.findIdx? (fun p => decide (p.1 = m))) := by
  obtain ⟨fs, hu, hk⟩ := under60
  rw [← find_gm]
  refine keyAt_struct hu (isM m) (hk m) (fun p hp w => ?_) (fun p hp hd => ?_)
  · obtain ⟨q, _, rfl⟩ := List.mem_map.1 hp
    rw [isM_vM]; exact run_eqM m q.1
  · obtain ⟨q, _, rfl⟩ := List.mem_map.1 hp
    rw [isM_vM] at hd
    have : q.1 = m := by simpa using hd
    show Instr.sameBits 10000 (vM q.1) (vM m) = true
    rw [this]; exact sameM m
def lookP (ps : List (Mk × Value)) (m : Mk) (z : Value) : Value :=
  match ps.find? (fun p => decide (p.1 = m)) with
  | some p => p.2
  | none => z
def putP (ps : List (Mk × Value)) (m : Mk) (v : Value) : List (Mk × Value) :=
  match ps.findIdx? (fun p => decide (p.1 = m)) with
  | some i => ps.set i (m, v)
  | none => ps ++ [(m, v)]
theorem find_of_idx {α : Type} {p : α → Bool} : ∀ {l : List α} {d : α}, (∀ i, l.findIdx? p = some i → l.find? p = some (l.getD i d)) ∧ (l.findIdx? p = none → l.find? p = none)
  | [], d => ⟨fun i h => by simp at h, fun _ => rfl⟩
  | x :: r, d => by
    have ih := find_of_idx (p := p) (l := r) (d := d)
    rw [List.findIdx?_cons, List.find?_cons]
    cases hp : p x with
    | true => simp
    | false =>
      simp only [Bool.false_eq_true, if_false]
      constructor
      · intro i hi
        obtain ⟨j, hj, rfl⟩ := Option.map_eq_some_iff.1 hi
        simpa using ih.1 j hj
      · intro hn
        exact ih.2 (by simpa using hn)
theorem gm_getD (ps : List (Mk × Value)) (i : Nat) (h : i < ps.length) : (gm ps).getD i (undef, undef) = (vM ps[i].1, ps[i].2) := by
  simp [gm, List.getD_eq_getElem?_getD, h]
theorem look_gm (ps : List (Mk × Value)) (m : Mk) (z : Value) : lookV (gm ps) (ps.findIdx? (fun p => decide (p.1 = m))) z = lookP ps m z := by
  unfold lookV lookP
  have hf := find_of_idx (p := fun p : Mk × Value => decide (p.1 = m)) (l := ps) (d := (⟨0, false, false, 0⟩, z))
  cases h : ps.findIdx? (fun p => decide (p.1 = m)) with
  | none => rw [hf.2 h]
  | some i =>
    obtain ⟨hi, _⟩ := List.findIdx?_eq_some_iff_getElem.1 h
    rw [hf.1 i h]
    simp only [gm_getD ps i hi]
    simp [List.getD_eq_getElem?_getD, hi]
theorem put_gm (ps : List (Mk × Value)) (m : Mk) (v : Value) : putV (gm ps) (ps.findIdx? (fun p => decide (p.1 = m))) (vM m) v = gm (putP ps m v) := by
  unfold putV putP
  cases h : ps.findIdx? (fun p => decide (p.1 = m)) with
  | none => simp [gm]
  | some i => simp [gm, List.map_set]
theorem gm_len (ps : List (Mk × Value)) : (gm ps).length = ps.length := by simp [gm]
theorem look_isSome (ps : List (Mk × Value)) (m : Mk) : (ps.findIdx? (fun p => decide (p.1 = m))).isSome = ps.any (fun p => decide (p.1 = m)) := by
  induction ps with
  | nil => rfl
  | cons p r ih =>
    rw [List.findIdx?_cons, List.any_cons]
    cases decide (p.1 = m) with
    | true => rfl
    | false => simp only [Bool.false_eq_true, if_false, Bool.false_or, ← ih]; cases r.findIdx? (fun p => decide (p.1 = m)) <;> rfl
theorem mp57 : mpB Try.prog 57 = some (60, 4) := by kernel_rfl
theorem mp63 : mpB Try.prog 63 = some (60, 3) := by kernel_rfl
theorem zv4 : zvB Try.prog 4 = some (.bool false) := by kernel_rfl
theorem zv3 : zvB Try.prog 3 = some (.int .i64 0) := by kernel_rfl
end Go.Proofs.Ytgblfhobiibeaaa.Acl

/- Lists of rights: entries in place, lists of children, valid lists; plain Lean. No condition. -/
set_option linter.unusedVariables false
set_option linter.unusedSimpArgs false
namespace Go.Proofs.Ytgblfhobiibeaaa.Acl
open Go.Proofs.Ytgblfhobiibeaaa.Abs

def upd1 (e a : Ace) : Ace := if marked a e then { a with rt := iOr a.rt e.rt } else a
theorem upd1_mk (e a : Ace) : mk (upd1 e a) = mk a := by unfold upd1; split <;> rfl
theorem upd1_no {e a : Ace} (h : marked a e = false) : upd1 e a = a := by unfold upd1; rw [h]; rfl
theorem upd1_yes {e a : Ace} (h : marked a e = true) : upd1 e a = { a with rt := iOr a.rt e.rt } := by unfold upd1; rw [h]; rfl
/-- The first k entries done, the others not yet. -/
def half (f : Ace → Ace) (l : List Ace) (k : Nat) : List Ace := (l.take k).map f ++ l.drop k
theorem half_len (f : Ace → Ace) (l : List Ace) (k : Nat) : (half f l k).length = l.length := by simp [half]; omega
theorem half_get {f : Ace → Ace} {l : List Ace} {k : Nat} (h : k < l.length) : (half f l k)[k]? = some l[k] := by
  unfold half
  have hl : ((l.take k).map f).length = k := by simp; omega
  rw [List.getElem?_append_right (by omega), hl, Nat.sub_self, List.getElem?_drop, Nat.add_zero, List.getElem?_eq_getElem h]
theorem half_set {f : Ace → Ace} {l : List Ace} {k : Nat} (h : k < l.length) : (half f l k).set k (f l[k]) = half f l (k + 1) := by
  unfold half
  have hl : ((l.take k).map f).length = k := by simp; omega
  rw [List.set_append_right _ _ (by omega), hl, Nat.sub_self, take_snoc h]
  have hd : l.drop k = l[k] :: l.drop (k + 1) := by rw [List.getElem_cons_drop]
  rw [hd, List.set_cons_zero, List.map_append, List.append_assoc]; rfl
theorem half_done {f : Ace → Ace} {l : List Ace} {k : Nat} (h : k < l.length) : (half f l (k + 1))[k]? = some (f l[k]) := by
  rw [← half_set h, List.getElem?_set_self (by rw [half_len]; exact h)]
theorem half_skip {f : Ace → Ace} {l : List Ace} {k : Nat} (h : k < l.length) (he : f l[k] = l[k]) : half f l (k + 1) = half f l k := by
  rw [← half_set h, he]
  apply List.ext_getElem?
  intro q
  by_cases hq : q = k
  · subst hq
    rw [List.getElem?_set_self (by rw [half_len]; exact h), half_get h]
  · rw [List.getElem?_set_ne (fun e => hq e.symm)]
theorem half_zero (f : Ace → Ace) (l : List Ace) : half f l 0 = l := by simp [half]
theorem half_end (f : Ace → Ace) (l : List Ace) : half f l l.length = l.map f := by simp [half]
theorem half_enc_set {f : Ace → Ace} {l : List Ace} {k : Nat} (h : k < l.length) : ((half f l k).map encA).set k (encA (f l[k])) = (half f l (k + 1)).map encA := by
  rw [← half_set h, List.map_set]

def cE (dir : Bool) (e : Ace) : Ace := { e with gv := true, rc := if dir then 2 else 1 }
def inh (e : Ace) : Bool := decide (e.rc = 2) || decide (e.rc = 3)
def hasM (out : List Ace) (e : Ace) : Bool := out.any fun a => marked a e
def cstep (dir : Bool) (out : List Ace) (e : Ace) : List Ace :=
  if inh e then (if hasM out (cE dir e) then out.map (upd1 (cE dir e)) else out ++ [cE dir e]) else out
def child (l : List Ace) (dir : Bool) : List Ace := l.foldl (cstep dir) []
theorem cstep_len (dir : Bool) (out : List Ace) (e : Ace) : (cstep dir out e).length ≤ out.length + 1 := by
  unfold cstep
  split
  · split <;> simp
  · omega
theorem fold_len (dir : Bool) (l : List Ace) : ∀ out : List Ace, (l.foldl (cstep dir) out).length ≤ out.length + l.length := by
  induction l with
  | nil => intro out; simp
  | cons e r ih =>
    intro out
    have h1 := ih (cstep dir out e)
    have h2 := cstep_len dir out e
    simp only [List.foldl_cons, List.length_cons]; omega
theorem child_len (l : List Ace) (dir : Bool) : (child l dir).length ≤ l.length := by
  have := fold_len dir l []
  simpa [child] using this
/-- No two entries have the same mark. -/
def Uniq (l : List Ace) : Prop := l.Pairwise fun a b => mk a ≠ mk b
theorem Uniq.map {l : List Ace} (h : Uniq l) (e : Ace) : Uniq (l.map (upd1 e)) := by
  unfold Uniq
  rw [List.pairwise_map]
  exact h.imp fun hab => by rw [upd1_mk, upd1_mk]; exact hab
theorem hasM_iff {out : List Ace} {e : Ace} : hasM out e = true ↔ ∃ a ∈ out, mk a = mk e := by simp [hasM, marked]
theorem Uniq.snoc {l : List Ace} (h : Uniq l) {e : Ace} (hn : hasM l e = false) : Uniq (l ++ [e]) := by
  unfold Uniq
  rw [List.pairwise_append]
  refine ⟨h, by simp, fun a ha b hb => ?_⟩
  have : b = e := by simpa using hb
  subst this
  intro he
  have := hasM_iff.2 ⟨a, ha, he⟩
  rw [hn] at this; cases this
theorem Uniq.cstep {l : List Ace} (h : Uniq l) (dir : Bool) (e : Ace) : Uniq (cstep dir l e) := by
  unfold Acl.cstep
  split
  · split
    · exact h.map _
    · rename_i hn; exact h.snoc (by simpa using hn)
  · exact h
theorem Uniq.fold {l : List Ace} (dir : Bool) : ∀ {out : List Ace}, Uniq out → Uniq (l.foldl (Acl.cstep dir) out) := by
  induction l with
  | nil => intro out h; exact h
  | cons e r ih => intro out h; exact ih (h.cstep dir e)
theorem child_uniq (l : List Ace) (dir : Bool) : Uniq (child l dir) := Uniq.fold dir (by simp [Uniq])
theorem Uniq.inj {l : List Ace} (h : Uniq l) {i j : Nat} (hi : i < l.length) (hj : j < l.length) (he : mk l[i] = mk l[j]) : i = j := by
  unfold Uniq at h
  rw [List.pairwise_iff_getElem] at h
  rcases Nat.lt_trichotomy i j with h1 | h1 | h1
  · exact absurd he (h i j hi hj h1)
  · exact h1
  · exact absurd he.symm (h j i hj hi h1)
theorem map_upd_set {out : List Ace} (h : Uniq out) {e : Ace} {i : Nat} (hi : i < out.length) (hm : marked out[i] e = true) : out.map (upd1 e) = out.set i { out[i] with rt := iOr out[i].rt e.rt } := by
  apply List.ext_getElem
  · simp
  · intro q h1 h2
    have hq : q < out.length := by simpa using h1
    simp only [List.getElem_map]
    by_cases he : i = q
    · subst he; rw [List.getElem_set_self, upd1_yes hm]
    · rw [List.getElem_set_ne he]
      refine upd1_no ?_
      cases hb : marked out[q] e with
      | false => rfl
      | true =>
        have e1 : mk out[i] = mk e := by simpa [marked] using hm
        have e2 : mk out[q] = mk e := by simpa [marked] using hb
        exact absurd (h.inj hi hq (e1.trans e2.symm)) he
/-- The map beside the list of children: where each mark is. -/
def cm (out : List Ace) : List (Mk × Value) := out.zipIdx.map fun p => (mk p.1, .int .i64 p.2)
theorem cm_len (out : List Ace) : (cm out).length = out.length := by simp [cm]
theorem cm_get {out : List Ace} {i : Nat} (h : i < out.length) : (cm out)[i]'(by rw [cm_len]; exact h) = (mk out[i], .int .i64 i) := by simp [cm]
theorem cm_snoc (out : List Ace) (e : Ace) : cm (out ++ [e]) = cm out ++ [(mk e, .int .i64 out.length)] := by simp [cm, List.zipIdx_append]
theorem cm_map (out : List Ace) (e : Ace) : cm (out.map (upd1 e)) = cm out := by
  apply List.ext_getElem
  · simp [cm]
  · intro i h1 h2
    have h3 : i < out.length := by rw [cm_len] at h2; exact h2
    rw [cm_get (by simpa using h3), cm_get h3]
    simp [upd1_mk]
theorem cm_find (out : List Ace) (m : Mk) : (cm out).findIdx? (fun p => decide (p.1 = m)) = out.findIdx? (fun a => decide (mk a = m)) := by
  have h1 : (fun p : Mk × Value => decide (p.1 = m)) ∘ (fun p : Ace × Nat => (mk p.1, (.int .i64 p.2 : Value))) = (fun p : Ace × Nat => decide (mk p.1 = m)) := rfl
  unfold cm
  rw [List.findIdx?_map, h1]
  have : ∀ (l : List Ace) (k : Nat), (l.zipIdx k).findIdx? (fun p : Ace × Nat => decide (mk p.1 = m)) = l.findIdx? (fun a => decide (mk a = m)) := by
    intro l
    induction l with
    | nil => intro k; rfl
    | cons a r ih =>
      intro k
      rw [List.zipIdx_cons, List.findIdx?_cons, List.findIdx?_cons, ih]
  exact this out 0
theorem find_isSome (out : List Ace) (e : Ace) : (out.findIdx? (fun a => decide (mk a = mk e))).isSome = hasM out e := by
  unfold hasM marked
  induction out with
  | nil => rfl
  | cons a r ih =>
    rw [List.findIdx?_cons, List.any_cons, ← ih]
    cases decide (mk a = mk e) with
    | true => rfl
    | false => simp only [Bool.false_eq_true, if_false, Bool.false_or]; cases r.findIdx? (fun a => decide (mk a = mk e)) <;> rfl

/-! ### Valid lists -/
/-- The marks seen so far. -/
def sn (l : List Ace) (i : Nat) : List (Mk × Value) := (l.take i).map fun a => (mk a, .bool true)
def lastG (l : List Ace) (i : Nat) : Bool := if i = 0 then false else (getA l (i - 1)).gv
theorem sn_look (l : List Ace) (i : Nat) (m : Mk) : lookP (sn l i) m (.bool false) = .bool ((l.take i).any fun a => decide (mk a = m)) := by
  unfold sn lookP
  induction l.take i with
  | nil => rfl
  | cons a r ih =>
    rw [List.map_cons, List.find?_cons, List.any_cons]
    cases decide (mk a = m) with
    | true => rfl
    | false => exact ih
theorem sn_find {l : List Ace} {i : Nat} {m : Mk} (h : ((l.take i).any fun a => decide (mk a = m)) = false) : (sn l i).findIdx? (fun p => decide (p.1 = m)) = none := by
  rw [List.findIdx?_eq_none_iff]
  intro p hp
  obtain ⟨a, ha, rfl⟩ := List.mem_map.1 hp
  rw [List.any_eq_false] at h
  simpa using h a ha
theorem sn_len {l : List Ace} {i : Nat} (h : i ≤ l.length) : (sn l i).length = i := by simp [sn]; omega
theorem any_take {l : List Ace} {i : Nat} (h : i < l.length) : ((l.take i).any fun a => decide (mk a = mk l[i])) = !decide (∀ k, k < i → marked (getA l k) (getA l i) = false) := by
  rw [Bool.eq_iff_iff]
  simp only [List.any_eq_true, decide_eq_true_eq, Bool.not_eq_true', decide_eq_false_iff_not, Classical.not_forall]
  constructor
  · rintro ⟨a, ha, he⟩
    obtain ⟨k, hk, rfl⟩ := List.getElem_of_mem ha
    simp only [List.length_take] at hk
    rw [List.getElem_take] at he
    refine ⟨k, by omega, ?_⟩
    rw [getA_lt (by omega), getA_lt h]
    simp [marked, he]
  · rintro ⟨k, hk, he⟩
    rw [getA_lt (by omega), getA_lt h] at he
    refine ⟨l[k], ?_, by simpa [marked] using he⟩
    rw [List.mem_take_iff_getElem]
    exact ⟨k, by omega, rfl⟩
theorem valid_bad {l : List Ace} {i : Nat} (hi : i < l.length) (h : okA l i = false) : valid l = false := by
  have : ¬ ∀ i, i < l.length → okA l i = true := fun ha => by rw [ha i hi] at h; cases h
  simp [valid, this]
theorem okA_eq {l : List Ace} {i : Nat} (h : i < l.length) : okA l i = (right l[i] && !(lastG l i && !l[i].gv) && !((l.take i).any fun a => decide (mk a = mk l[i]))) := by
  rw [any_take h, Bool.not_not]
  unfold okA lastG
  rw [getA_lt h]
  by_cases h0 : i = 0
  · simp [h0]
  · simp [h0]
theorem map_upd_no {out : List Ace} {x : Ace} (h : hasM out x = false) : out.map (upd1 x) = out := by
  have : out.map (upd1 x) = out.map id := List.map_congr_left fun a ha => upd1_no (by
    unfold hasM at h; rw [List.any_eq_false] at h; simpa using h a ha)
  rw [this, List.map_id]
theorem has_idx {out : List Ace} {x : Ace} (h : hasM out x = true) : ∃ q, ∃ hq : q < out.length, out.findIdx? (fun a => decide (mk a = mk x)) = some q ∧ marked out[q] x = true := by
  have hs := find_isSome out x
  rw [h] at hs
  cases hf : out.findIdx? (fun a => decide (mk a = mk x)) with
  | none => rw [hf] at hs; cases hs
  | some q =>
    obtain ⟨h1, h2, _⟩ := List.findIdx?_eq_some_iff_getElem.1 hf
    exact ⟨q, h1, rfl, h2⟩
theorem cm_look {out : List Ace} {x : Ace} {q : Nat} (hq : q < out.length) (h : out.findIdx? (fun a => decide (mk a = mk x)) = some q) : lookV (gm (cm out)) ((cm out).findIdx? (fun p => decide (p.1 = mk x))) (.int .i64 0) = .int .i64 q := by
  rw [cm_find, h]
  have h2 : q < (cm out).length := by rw [cm_len]; exact hq
  show ((gm (cm out)).getD q (undef, undef)).2 = _
  rw [gm_getD _ _ h2, cm_get hq]
theorem cm_none {out : List Ace} {x : Ace} (h : hasM out x = false) : (cm out).findIdx? (fun p => decide (p.1 = mk x)) = none := by
  rw [cm_find]
  have hs := find_isSome out x
  rw [h] at hs
  cases hf : out.findIdx? (fun a => decide (mk a = mk x)) with
  | none => rfl
  | some q => rw [hf] at hs; cases hs
theorem upd_row {out : List Ace} (h : Uniq out) {x : Ace} {q : Nat} (hq : q < out.length) (hm : marked out[q] x = true) : (out.map encA).set q (encA { out[q] with rt := iOr out[q].rt x.rt }) = (out.map (upd1 x)).map encA := by
  rw [map_upd_set h hq hm, List.map_set]
theorem okA_mark {l : List Ace} {i k : Nat} (hi : i < l.length) (hk : k < i) (hm : marked (l[k]'(by omega)) l[i] = true) : okA l i = false := by
  unfold okA
  have : ¬ ∀ k, k < i → marked (getA l k) (getA l i) = false := fun hh => by
    have := hh k hk
    rw [getA_lt (by omega), getA_lt hi, hm] at this; cases this
  simp [this]
theorem okA_good {l : List Ace} {i : Nat} (hi : i < l.length) (h1 : (right l[i] && !(lastG l i && !l[i].gv)) = true) (h2 : ∀ j (h : j < l.length), j < i → marked l[j] l[i] = false) : okA l i = true := by
  rw [okA_eq hi, h1, any_take hi]
  have : ∀ k, k < i → marked (getA l k) (getA l i) = false := fun k hk => by rw [getA_lt (by omega), getA_lt hi]; exact h2 k (by omega) hk
  rw [decide_eq_true this]; rfl
theorem not_t {b : Bool} (h : (!b) = true) : b = false := by simpa using h
theorem not_f {b : Bool} (h : (!b) = false) : b = true := by simpa using h
theorem sn_next {l : List Ace} {ix : Nat} (h : ix < l.length) : ((gm (sn l ix) ++ [(vM (mk l[ix]), Value.bool false)]).set (gm (sn l ix)).length (((gm (sn l ix) ++ [(vM (mk l[ix]), Value.bool false)]).getD (gm (sn l ix)).length (undef, undef)).1, Value.bool true)) = gm (sn l (ix + 1)) := by
  have e : sn l (ix + 1) = sn l ix ++ [(mk l[ix], Value.bool true)] := by unfold sn; rw [take_snoc h, List.map_append]; rfl
  rw [e]
  have hg : gm (sn l ix ++ [(mk l[ix], Value.bool true)]) = gm (sn l ix) ++ [(vM (mk l[ix]), Value.bool true)] := by simp [gm]
  rw [hg]
  simp [List.getD_eq_getElem?_getD]
def decA : T → Ace
  | .agg [.v (.int .i64 w), .v (.bool a), .v (.int .i64 r), .v (.int .i64 c), .v (.bool g)] => ⟨w, a, r, c, g⟩
  | _ => a0
theorem decA_enc (a : Ace) : decA (encA a) = a := rfl
theorem filter_dec (p : Ace → Bool) (l : List Ace) : (l.map encA).filter (fun x => !(p (decA x))) = (l.filter (fun a => !(p a))).map encA := by
  induction l with
  | nil => rfl
  | cons c r ih =>
    simp only [List.map_cons, List.filter_cons, decA_enc, ih]
    cases p c <;> rfl
theorem own_eq (l : List Ace) : own l false = l.filter (fun a => !a.gv) := by
  unfold own; congr 1; funext a; cases a.gv <;> rfl
theorem own_eq1 (l : List Ace) : own l true = l.filter (fun a => !(!a.gv)) := by
  unfold own; congr 1; funext a; cases a.gv <;> rfl
theorem own_len (l : List Ace) (g : Bool) : (own l g).length ≤ l.length := by unfold own; exact List.length_filter_le _ _
theorem valid_len {l : List Ace} (h : valid l = true) : l.length ≤ 16 := by simp [valid] at h; exact h.2
end Go.Proofs.Ytgblfhobiibeaaa.Acl

/- Valid lists, and putting entries; plain Lean. No condition. -/
set_option linter.unusedVariables false
set_option linter.unusedSimpArgs false
namespace Go.Proofs.Ytgblfhobiibeaaa.Acl
open Go.Proofs.Ytgblfhobiibeaaa.Abs

/-- A valid list, in words that are easy to use. -/
structure VL (l : List Ace) : Prop where
  rt : ∀ a ∈ l, right a = true
  un : Uniq l
  gl : l.Pairwise fun a b => a.gv = true → b.gv = true
  ln : l.length ≤ 16
theorem valid_VL (l : List Ace) : valid l = true ↔ VL l := by
  constructor
  · intro h
    have hln := valid_len h
    simp only [valid, Bool.and_eq_true, decide_eq_true_eq] at h
    obtain ⟨h1, _⟩ := h
    have ok : ∀ i (hi : i < l.length), right l[i] = true ∧ (0 < i → (l[i - 1]'(by omega)).gv = true → l[i].gv = true) ∧ ∀ k (hk : k < i), marked (l[k]'(by omega)) l[i] = false := by
      intro i hi
      have := h1 i hi
      unfold okA at this
      rw [getA_lt hi] at this
      simp only [Bool.and_eq_true, Bool.or_eq_true, decide_eq_true_eq, Bool.not_eq_true'] at this
      obtain ⟨⟨g1, g2⟩, g3⟩ := this
      refine ⟨g1, fun h0 hg => ?_, fun k hk => by have := g3 k hk; rwa [getA_lt (by omega)] at this⟩
      rcases g2 with g2 | g2
      · omega
      · rw [getA_lt (by omega), hg] at g2
        simpa using g2
    refine ⟨fun a ha => ?_, ?_, ?_, hln⟩
    · obtain ⟨i, hi, rfl⟩ := List.getElem_of_mem ha
      exact (ok i hi).1
    · unfold Uniq
      rw [List.pairwise_iff_getElem]
      intro i j hi hj hij he
      have := (ok j hj).2.2 i hij
      simp [marked, he] at this
    · rw [List.pairwise_iff_getElem]
      intro i j hi hj hij hg
      obtain ⟨d, rfl⟩ : ∃ d, j = i + 1 + d := ⟨j - i - 1, by omega⟩
      induction d with
      | zero => exact (ok (i + 1) hj).2.1 (by omega) hg
      | succ d ih => exact (ok (i + 1 + (d + 1)) hj).2.1 (by omega) (ih (by omega) (by omega))
  · intro h
    simp only [valid, Bool.and_eq_true, decide_eq_true_eq]
    refine ⟨fun i hi => ?_, h.ln⟩
    have hp := h.gl
    have hu := h.un
    unfold Uniq at hu
    rw [List.pairwise_iff_getElem] at hp hu
    unfold okA
    rw [getA_lt hi]
    simp only [Bool.and_eq_true, Bool.or_eq_true, decide_eq_true_eq, Bool.not_eq_true']
    refine ⟨⟨h.rt _ (List.getElem_mem hi), ?_⟩, fun k hk => ?_⟩
    · by_cases h0 : i = 0
      · exact .inl h0
      · right
        rw [getA_lt (by omega)]
        have := hp (i - 1) i (by omega) hi (by omega)
        cases hg : l[i - 1].gv with
        | false => rfl
        | true => rw [this hg]; rfl
    · rw [getA_lt (by omega)]
      have := hu k i (by omega) hi hk
      simpa [marked] using this
theorem split_gv : ∀ {l : List Ace}, l.Pairwise (fun a b => a.gv = true → b.gv = true) → l = own l false ++ own l true
  | [], _ => rfl
  | a :: r, h => by
    rw [List.pairwise_cons] at h
    have ih := split_gv h.2
    cases hg : a.gv with
    | false =>
      have h1 : own (a :: r) false = a :: own r false := by unfold own; rw [List.filter_cons_of_pos (by simp [hg])]
      have h2 : own (a :: r) true = own r true := by unfold own; rw [List.filter_cons_of_neg (by simp [hg])]
      rw [h1, h2, List.cons_append, ← ih]
    | true =>
      have hall : ∀ b ∈ r, b.gv = true := fun b hb => h.1 b hb hg
      have h1 : own (a :: r) false = [] := by
        unfold own
        rw [List.filter_eq_nil_iff]
        intro b hb
        rcases List.mem_cons.1 hb with rfl | hb
        · simp [hg]
        · simp [hall b hb]
      have h2 : own (a :: r) true = a :: r := by
        unfold own
        rw [List.filter_eq_self]
        intro b hb
        rcases List.mem_cons.1 hb with rfl | hb
        · simp [hg]
        · simp [hall b hb]
      rw [h1, h2]; rfl
theorem VL.split {l : List Ace} (h : VL l) : l = own l false ++ own l true := split_gv h.gl
theorem VL.rt1 {l : List Ace} (h : VL l) {a : Ace} (ha : a ∈ l) : 1 ≤ a.rt ∧ a.rt ≤ 15 := by
  have := h.rt a ha
  simp only [right, Bool.and_eq_true, decide_eq_true_eq] at this
  omega
def e1 (e : Ace) (z : Int) : Ace := if e.rt = 0 then { e with rt := z } else e
theorem e1_right (e : Ace) : right (e1 e 15) = right (e1 e 1) := by
  unfold e1
  split
  · simp [right]
  · rfl
def setR (e a : Ace) : Ace := if marked a e then { a with rt := e.rt } else a
def nz (a : Ace) : Bool := decide (a.rt ≠ 0)
def withE (l : List Ace) (e : Ace) : List Ace := if at' (own l false) e = 0 then own l false ++ [e] else own l false
def putL (l : List Ace) (e : Ace) : List Ace := ((withE l e).map (setR e)).filter nz ++ own l true
def putOk (l : List Ace) (e : Ace) : Bool := valid l && !e.gv && right (e1 e 1)
def put (l : List Ace) (e : Ace) : List Ace × Int :=
  if putOk l e then (if 16 < (putL l e).length then ([], 2) else (putL l e, 0)) else ([], 20)
theorem setR_mk (e a : Ace) : mk (setR e a) = mk a := by unfold setR; split <;> rfl
theorem marked_same {a e : Ace} (h : marked a e = true) : ({ a with rt := e.rt } : Ace) = e := by
  have : mk a = mk e := by simpa [marked] using h
  cases a; cases e
  simp only [mk, Mk.mk.injEq] at this
  obtain ⟨h1, h2, h3, h4⟩ := this
  subst h1; subst h2; subst h3; subst h4; rfl
theorem marked_gv {a e : Ace} (h : marked a e = true) : a.gv = e.gv := by
  have : mk a = mk e := by simpa [marked] using h
  exact (congrArg Mk.gv this)
theorem setR_no {e a : Ace} (h : marked a e = false) : setR e a = a := by unfold setR; rw [h]; rfl
theorem setR_yes {e a : Ace} (h : marked a e = true) : setR e a = e := by unfold setR; rw [h]; exact marked_same h
theorem marked_self (e : Ace) : marked e e = true := by simp [marked]
theorem mem_own {l : List Ace} {g : Bool} {a : Ace} : a ∈ own l g ↔ a ∈ l ∧ a.gv = g := by simp [own]
theorem at_zero {l : List Ace} (h : ∀ a ∈ l, 1 ≤ a.rt) (e : Ace) : at' l e = 0 ↔ hasM l e = false := by
  unfold at'
  cases hf : l.find? (fun a => marked a e) with
  | none =>
    rw [List.find?_eq_none] at hf
    simp only [true_iff]
    unfold hasM
    rw [List.any_eq_false]
    exact hf
  | some a =>
    have h1 := List.find?_some hf
    have h2 := List.mem_of_find?_eq_some hf
    have h3 := h a h2
    have h4 : hasM l e = true := by unfold hasM; rw [List.any_eq_true]; exact ⟨a, h2, h1⟩
    rw [h4]
    constructor
    · intro h0
      have h0 : a.rt = 0 := h0
      omega
    · intro h; cases h
theorem own_hasM {l : List Ace} {e : Ace} (he : e.gv = false) : hasM (own l false) e = hasM l e := by
  rw [Bool.eq_iff_iff, hasM_iff, hasM_iff]
  constructor
  · rintro ⟨a, ha, hm⟩; exact ⟨a, (mem_own.1 ha).1, hm⟩
  · rintro ⟨a, ha, hm⟩
    refine ⟨a, mem_own.2 ⟨ha, ?_⟩, hm⟩
    rw [← he]; exact congrArg Mk.gv hm
theorem map_setR_own {l : List Ace} {e : Ace} (he : e.gv = false) : (own l true).map (setR e) = own l true := by
  have : (own l true).map (setR e) = (own l true).map id := List.map_congr_left fun a ha => setR_no (by
    cases hm : marked a e with
    | false => rfl
    | true => have h1 := marked_gv hm; rw [(mem_own.1 ha).2, he] at h1; cases h1)
  rw [this, List.map_id]
theorem filter_nz {l : List Ace} (h : ∀ a ∈ l, 1 ≤ a.rt) : l.filter nz = l := by
  rw [List.filter_eq_self]
  intro a ha
  have := h a ha
  exact decide_eq_true (by omega)
/-- Put with Rights 0. -/
theorem put_zero {l : List Ace} {e : Ace} (h : VL l) (he : e.gv = false) (hz : e.rt = 0) : putL l e = l.filter (fun a => !marked a e) := by
  have hmap : ∀ (m : List Ace), (∀ a ∈ m, 1 ≤ a.rt) → (m.map (setR e)).filter nz = m.filter (fun a => !marked a e) := by
    intro m
    induction m with
    | nil => intro _; rfl
    | cons a r ih =>
      intro hm
      have ih := ih fun b hb => hm b (by simp [hb])
      rw [List.map_cons]
      cases hb : marked a e with
      | true => rw [setR_yes hb, List.filter_cons_of_neg (by simp [nz, hz]), List.filter_cons_of_neg (by simp [hb]), ih]
      | false => rw [setR_no hb, List.filter_cons_of_pos (by have := hm a (by simp); simp [nz]; omega), List.filter_cons_of_pos (by simp [hb]), ih]
  have hown : ∀ a ∈ own l false, 1 ≤ a.rt := fun a ha => (h.rt1 (mem_own.1 ha).1).1
  have hwith : ((withE l e).map (setR e)).filter nz = (own l false).filter (fun a => !marked a e) := by
    unfold withE
    split
    · rw [List.map_append, List.filter_append, hmap _ hown, List.map_cons, List.map_nil, setR_yes (marked_self e), List.filter_cons_of_neg (by simp [nz, hz])]
      simp
    · exact hmap _ hown
  have hg : (own l true).filter (fun a => !marked a e) = own l true := by
    rw [List.filter_eq_self]
    intro a ha
    cases hm : marked a e with
    | false => rfl
    | true => have h1 := marked_gv hm; rw [(mem_own.1 ha).2, he] at h1; cases h1
  unfold putL
  rw [hwith]
  conv => rhs; rw [h.split, List.filter_append, hg]
/-- Put of an entry whose mark is there. -/
theorem put_there {l : List Ace} {e : Ace} (h : VL l) (he : e.gv = false) (hz : e.rt ≠ 0) {i : Nat} (hi : i < l.length) (hm : marked l[i] e = true) : putL l e = l.set i e := by
  have hh : hasM l e = true := hasM_iff.2 ⟨l[i], List.getElem_mem hi, by simpa [marked] using hm⟩
  have hw : withE l e = own l false := by
    unfold withE
    rw [if_neg]
    rw [at_zero (fun a ha => (h.rt1 (mem_own.1 ha).1).1), own_hasM he, hh]; simp
  have hnz : ((own l false).map (setR e)).filter nz = (own l false).map (setR e) := by
    rw [List.filter_eq_self]
    intro a ha
    obtain ⟨b, hb, rfl⟩ := List.mem_map.1 ha
    have := h.rt1 (mem_own.1 hb).1
    cases hmb : marked b e with
    | true => rw [setR_yes hmb]; simp [nz, hz]
    | false => rw [setR_no hmb]; simp [nz]; omega
  unfold putL
  rw [hw, hnz]
  conv => lhs; rw [← map_setR_own (l := l) he, ← List.map_append, ← h.split]
  apply List.ext_getElem
  · simp
  · intro q h1 h2
    have hq : q < l.length := by simpa using h1
    simp only [List.getElem_map]
    by_cases hiq : i = q
    · subst hiq; rw [List.getElem_set_self, setR_yes hm]
    · rw [List.getElem_set_ne hiq]
      refine setR_no ?_
      cases hb : marked l[q] e with
      | false => rfl
      | true =>
        have e1 : mk l[i] = mk e := by simpa [marked] using hm
        have e2 : mk l[q] = mk e := by simpa [marked] using hb
        exact absurd (h.un.inj hi hq (e1.trans e2.symm)) hiq
/-- Put of an entry whose mark is not there. -/
theorem put_new {l : List Ace} {e : Ace} (h : VL l) (he : e.gv = false) (hz : e.rt ≠ 0) (hh : hasM l e = false) : putL l e = l.take (own l false).length ++ e :: l.drop (own l false).length := by
  have hw : withE l e = own l false ++ [e] := by
    unfold withE
    rw [if_pos]
    rw [at_zero (fun a ha => (h.rt1 (mem_own.1 ha).1).1), own_hasM he, hh]
  have hno : (own l false).map (setR e) = own l false := by
    have : (own l false).map (setR e) = (own l false).map id := List.map_congr_left fun a ha => setR_no (by
      have := own_hasM (l := l) he; rw [hh] at this; unfold hasM at this; rw [List.any_eq_false] at this; simpa using this a ha)
    rw [this, List.map_id]
  unfold putL
  rw [hw, List.map_append, hno, List.map_cons, List.map_nil, setR_yes (marked_self e), List.filter_append, filter_nz (fun a ha => (h.rt1 (mem_own.1 ha).1).1), List.filter_cons_of_pos (by simp [nz, hz])]
  have h1 : l.take (own l false).length = own l false := (congrArg (List.take (own l false).length) h.split).trans (by simp)
  have h2 : l.drop (own l false).length = own l true := (congrArg (List.drop (own l false).length) h.split).trans (by simp)
  rw [h1, h2]; simp
theorem put_new_len {l : List Ace} {e : Ace} (h : VL l) : (l.take (own l false).length ++ e :: l.drop (own l false).length).length = l.length + 1 := by
  have := own_len l false
  simp; omega
def outK (e : Ace) (m : List Ace) (k : Nat) : List Ace := ((m.take k).map (setR e)).filter nz
theorem outK_len (e : Ace) (m : List Ace) (k : Nat) : (outK e m k).length ≤ k := by
  unfold outK
  have h1 := List.length_filter_le nz ((m.take k).map (setR e))
  have h2 : ((m.take k).map (setR e)).length ≤ k := by rw [List.length_map, List.length_take]; omega
  omega
theorem outK_yes {e : Ace} {m : List Ace} {k : Nat} (h : k < m.length) (hz : (setR e m[k]).rt ≠ 0) : outK e m (k + 1) = outK e m k ++ [setR e m[k]] := by
  unfold outK
  rw [take_snoc h, List.map_append, List.filter_append, List.map_cons, List.map_nil, List.filter_cons_of_pos (by exact decide_eq_true hz)]; rfl
theorem outK_no {e : Ace} {m : List Ace} {k : Nat} (h : k < m.length) (hz : (setR e m[k]).rt = 0) : outK e m (k + 1) = outK e m k := by
  unfold outK
  rw [take_snoc h, List.map_append, List.filter_append, List.map_cons, List.map_nil, List.filter_cons_of_neg (by simp [nz, hz])]; simp
theorem outK_end (l : List Ace) (e : Ace) : outK e (withE l e) (withE l e).length ++ own l true = putL l e := by
  unfold outK putL; rw [List.take_length]
theorem putOk_eq (l : List Ace) (e : Ace) : putOk l e = (valid l && !e.gv && right (e1 e 15)) := by unfold putOk; rw [e1_right]
theorem putOk_D {l : List Ace} {e : Ace} (h : putOk l e = true) : VL l ∧ e.gv = false := by
  unfold putOk at h
  simp only [Bool.and_eq_true, Bool.not_eq_true'] at h
  exact ⟨(valid_VL l).1 h.1.1, h.1.2⟩
theorem put_c0 {l : List Ace} {e : Ace} (h : putOk l e = true) (hz : e.rt = 0) : put l e = (l.filter (fun a => !marked a e), 0) := by
  obtain ⟨hV, he⟩ := putOk_D h
  have hp := put_zero hV he hz
  have h1 := List.length_filter_le (fun a => !marked a e) l
  have h2 := hV.ln
  unfold put
  rw [if_pos h, hp, if_neg (by omega)]
theorem put_c1 {l : List Ace} {e : Ace} (h : putOk l e = true) (hz : e.rt ≠ 0) {i : Nat} (hi : i < l.length) (hm : marked l[i] e = true) : put l e = (l.set i e, 0) := by
  obtain ⟨hV, he⟩ := putOk_D h
  have hp := put_there hV he hz hi hm
  have h2 := hV.ln
  unfold put
  rw [if_pos h, hp, if_neg (by rw [List.length_set]; omega)]
theorem put_c2 {l : List Ace} {e : Ace} (h : putOk l e = true) (hz : e.rt ≠ 0) (hh : hasM l e = false) (h16 : l.length = 16) : put l e = ([], 2) := by
  obtain ⟨hV, he⟩ := putOk_D h
  have hp := put_new hV he hz hh
  have hl := put_new_len (e := e) hV
  unfold put
  rw [if_pos h, hp, if_pos (by omega)]
theorem put_c3 {l : List Ace} {e : Ace} (h : putOk l e = true) (hz : e.rt ≠ 0) (hh : hasM l e = false) (h16 : l.length ≠ 16) : put l e = (l.take (own l false).length ++ e :: l.drop (own l false).length, 0) := by
  obtain ⟨hV, he⟩ := putOk_D h
  have hp := put_new hV he hz hh
  have hl := put_new_len (e := e) hV
  have h2 := hV.ln
  unfold put
  rw [if_pos h, hp, if_neg (by omega)]
theorem find_dec (p : Ace → Bool) (l : List Ace) : (l.map encA).findIdx? (fun x => p (decA x)) = l.findIdx? p := by
  rw [List.findIdx?_map]; rfl
def ixA (o : Option Nat) : Int := match o with | some i => (i : Int) | none => -1
theorem ixA_neg {o : Option Nat} (h : ¬ 0 ≤ ixA o) : o = none := by
  cases o with
  | none => rfl
  | some i => exfalso; apply h; simp [ixA]
theorem ixA_pos {o : Option Nat} (h : 0 ≤ ixA o) : ∃ i, o = some i := by
  cases o with
  | none => simp [ixA] at h
  | some i => exact ⟨i, rfl⟩
theorem hasM_none {l : List Ace} {e : Ace} (h : l.findIdx? (fun a => marked a e) = none) : hasM l e = false := by
  rw [List.findIdx?_eq_none_iff] at h
  unfold hasM; rw [List.any_eq_false]
  intro a ha; simp [h a ha]
end Go.Proofs.Ytgblfhobiibeaaa.Acl

/- Merging lists; plain Lean. No condition. -/
set_option linter.unusedVariables false
set_option linter.unusedSimpArgs false
namespace Go.Proofs.Ytgblfhobiibeaaa.Acl
open Go.Proofs.Ytgblfhobiibeaaa.Abs

theorem hasM_append (l m : List Ace) (a : Ace) : hasM (l ++ m) a = (hasM l a || hasM m a) := by simp [hasM]
theorem hasM_cons (x : Ace) (l : List Ace) (a : Ace) : hasM (x :: l) a = (marked x a || hasM l a) := by simp [hasM]
def dstep (d : List Ace) (a : Ace) : List Ace := if hasM d a then d else d ++ [a]
def ddup (l : List Ace) : List Ace := l.foldl dstep []
theorem ddup_snoc (l : List Ace) (a : Ace) : ddup (l ++ [a]) = dstep (ddup l) a := by simp [ddup]
theorem marked_trans {a b c : Ace} (h : marked a b = true) : marked a c = marked b c := by
  have : mk a = mk b := by simpa [marked] using h
  simp [marked, this]
theorem hasM_fold (a : Ace) : ∀ (l d : List Ace), hasM (l.foldl dstep d) a = (hasM d a || hasM l a)
  | [], d => by simp [hasM]
  | x :: r, d => by
    rw [List.foldl_cons, hasM_fold a r (dstep d x), hasM_cons]
    unfold dstep
    by_cases h : hasM d x = true
    · rw [if_pos h]
      cases hm : marked x a with
      | false => simp
      | true =>
        have : hasM d a = true := by
          rw [hasM_iff] at h ⊢
          obtain ⟨y, hy, he⟩ := h
          have hxa : mk x = mk a := by simpa [marked] using hm
          exact ⟨y, hy, he.trans hxa⟩
        rw [this]; simp
    · rw [if_neg h, hasM_append]
      have : hasM [x] a = marked x a := by simp [hasM]
      rw [this, Bool.or_assoc]
theorem hasM_ddup (l : List Ace) (a : Ace) : hasM (ddup l) a = hasM l a := by
  unfold ddup; rw [hasM_fold]; simp [hasM]
theorem mem_fold (a : Ace) : ∀ (l d : List Ace), a ∈ l.foldl dstep d → a ∈ d ∨ a ∈ l
  | [], d, h => .inl h
  | x :: r, d, h => by
    rw [List.foldl_cons] at h
    rcases mem_fold a r (dstep d x) h with h | h
    · unfold dstep at h
      split at h
      · exact .inl h
      · rcases List.mem_append.1 h with h | h
        · exact .inl h
        · right; simp at h; simp [h]
    · right; simp [h]
theorem mem_ddup {a : Ace} {l : List Ace} (h : a ∈ ddup l) : a ∈ l := by
  rcases mem_fold a l [] h with h | h
  · cases h
  · exact h
theorem ddup_uniq_fold : ∀ (l d : List Ace), Uniq d → Uniq (l.foldl dstep d)
  | [], d, h => h
  | x :: r, d, h => by
    rw [List.foldl_cons]
    refine ddup_uniq_fold r _ ?_
    unfold dstep
    split
    · exact h
    · rename_i hn; exact h.snoc (by simpa using hn)
theorem ddup_uniq (l : List Ace) : Uniq (ddup l) := ddup_uniq_fold l [] (by simp [Uniq])
theorem ddup_len_fold : ∀ (l d : List Ace), (l.foldl dstep d).length ≤ d.length + l.length
  | [], d => by simp
  | x :: r, d => by
    rw [List.foldl_cons]
    have := ddup_len_fold r (dstep d x)
    have h2 : (dstep d x).length ≤ d.length + 1 := by unfold dstep; split <;> simp
    simp only [List.length_cons]; omega
theorem ddup_len (l : List Ace) : (ddup l).length ≤ l.length := by
  have := ddup_len_fold l []
  simpa [ddup] using this
theorem ddup_of_uniq_fold : ∀ (l d : List Ace), Uniq (d ++ l) → l.foldl dstep d = d ++ l
  | [], d, _ => by simp
  | x :: r, d, h => by
    rw [List.foldl_cons]
    have hn : hasM d x = false := by
      cases hb : hasM d x with
      | false => rfl
      | true =>
        obtain ⟨y, hy, he⟩ := hasM_iff.1 hb
        unfold Uniq at h
        rw [List.pairwise_append] at h
        exact absurd he (h.2.2 y hy x (by simp))
    have e : dstep d x = d ++ [x] := by unfold dstep; rw [hn]; rfl
    rw [e]
    have := ddup_of_uniq_fold r (d ++ [x]) (by simpa using h)
    simpa using this
theorem ddup_of_uniq {l : List Ace} (h : Uniq l) : ddup l = l := by
  have := ddup_of_uniq_fold l [] (by simpa using h)
  simpa [ddup] using this
theorem Uniq.hasM_take {l : List Ace} (h : Uniq l) {i : Nat} (hi : i < l.length) : hasM (l.take i) l[i] = false := by
  cases hb : hasM (l.take i) l[i] with
  | false => rfl
  | true =>
    obtain ⟨y, hy, he⟩ := hasM_iff.1 hb
    obtain ⟨k, hk, rfl⟩ := List.getElem_of_mem hy
    simp only [List.length_take] at hk
    rw [List.getElem_take] at he
    have := h.inj (by omega) hi he
    omega

/-! ### What becomes of a mark -/
structure Tri where
  base : List Ace
  mine : List Ace
  theirs : List Ace
def clash (x : Tri) (e : Ace) : Bool := decide (at' x.mine e ≠ at' x.base e) && decide (at' x.theirs e ≠ at' x.base e) && decide (at' x.mine e ≠ at' x.theirs e)
def newRt (x : Tri) (e : Ace) : Int := if at' x.mine e = at' x.base e then at' x.theirs e else at' x.mine e
def keepE (x : Tri) (e : Ace) : Option Ace := if newRt x e = 0 then none else some { e with rt := newRt x e }
def allE (x : Tri) : List Ace := ddup (x.mine ++ x.theirs ++ x.base)
def outE (x : Tri) : List Ace := (allE x).filterMap (keepE x)
def parted (l : List Ace) : List Ace := own l false ++ own l true
def mergeG (x : Tri) : List Ace × Bool :=
  if (allE x).any (clash x) then ([], false) else if 16 < (outE x).length then ([], false) else (parted (outE x), true)
def merge (x : Tri) : List Ace × Bool :=
  if x.mine = x.base then (x.theirs, true) else if x.theirs = x.base ∨ x.mine = x.theirs then (x.mine, true) else mergeG x
theorem parted_len (l : List Ace) : (parted l).length = l.length := by
  unfold parted own
  induction l with
  | nil => rfl
  | cons a r ih =>
    simp at ih
    cases hg : a.gv <;> simp [hg] <;> omega
/-- The marks of the given lists decide alone. -/
theorem at_marked {l : List Ace} {a b : Ace} (h : mk a = mk b) : at' l a = at' l b := by
  unfold at'
  have : (fun c => marked c a) = (fun c => marked c b) := by funext c; simp [marked, h]
  rw [this]
theorem clash_mk {x : Tri} {a b : Ace} (h : mk a = mk b) : clash x a = clash x b := by unfold clash; rw [at_marked h, at_marked h, at_marked h]

/-! ### Tables -/
def tstep (ps : List (Mk × Value)) (a : Ace) : List (Mk × Value) := putP ps (mk a) (.int .i64 a.rt)
def tbl (l : List Ace) : List (Mk × Value) := l.foldl tstep []
theorem putP_new {ps : List (Mk × Value)} {m : Mk} {v : Value} (h : ∀ p ∈ ps, p.1 ≠ m) : putP ps m v = ps ++ [(m, v)] := by
  unfold putP
  have : ps.findIdx? (fun p => decide (p.1 = m)) = none := by
    rw [List.findIdx?_eq_none_iff]
    intro p hp
    simpa using h p hp
  rw [this]
theorem tbl_uniq_fold : ∀ (l d : List Ace), Uniq (d ++ l) → l.foldl tstep (d.map fun a => (mk a, .int .i64 a.rt)) = (d ++ l).map fun a => (mk a, Value.int .i64 a.rt)
  | [], d, _ => by simp
  | x :: r, d, h => by
    rw [List.foldl_cons]
    have hn : ∀ p ∈ (d.map fun a => (mk a, Value.int .i64 a.rt)), p.1 ≠ mk x := by
      intro p hp
      obtain ⟨y, hy, rfl⟩ := List.mem_map.1 hp
      unfold Uniq at h
      rw [List.pairwise_append] at h
      exact h.2.2 y hy x (by simp)
    have e : tstep (d.map fun a => (mk a, Value.int .i64 a.rt)) x = (d.map fun a => (mk a, Value.int .i64 a.rt)) ++ [(mk x, Value.int .i64 x.rt)] := putP_new hn
    rw [e]
    have := tbl_uniq_fold r (d ++ [x]) (by simpa using h)
    rw [List.map_append] at this
    simpa using this
theorem tbl_uniq {l : List Ace} (h : Uniq l) : tbl l = l.map fun a => (mk a, Value.int .i64 a.rt) := by
  have := tbl_uniq_fold l [] (by simpa using h)
  simpa [tbl] using this
theorem look_tbl {l : List Ace} (h : Uniq l) (e : Ace) : lookP (tbl l) (mk e) (.int .i64 0) = .int .i64 (at' l e) := by
  rw [tbl_uniq h]
  unfold lookP at'
  induction l with
  | nil => rfl
  | cons a r ih =>
    rw [List.map_cons, List.find?_cons, List.find?_cons]
    unfold marked
    cases decide (mk a = mk e) with
    | true => rfl
    | false =>
      have hr : Uniq r := by unfold Uniq at h ⊢; exact (List.pairwise_cons.1 h).2
      exact ih hr
/-- The marks that are done. -/
def dn (d : List Ace) : List (Mk × Value) := d.map fun a => (mk a, .bool true)
theorem look_dn (d : List Ace) (e : Ace) : lookP (dn d) (mk e) (.bool false) = .bool (hasM d e) := by
  unfold dn lookP hasM marked
  induction d with
  | nil => rfl
  | cons a r ih =>
    rw [List.map_cons, List.find?_cons, List.any_cons]
    cases decide (mk a = mk e) with
    | true => rfl
    | false => exact ih
theorem dn_new {d : List Ace} {e : Ace} (h : hasM d e = false) : putP (dn d) (mk e) (.bool true) = dn (d ++ [e]) := by
  rw [putP_new]
  · simp [dn]
  · intro p hp
    obtain ⟨y, hy, rfl⟩ := List.mem_map.1 hp
    intro he
    have := hasM_iff.2 ⟨y, hy, he⟩
    rw [h] at this; cases this
theorem dstep_yes {d : List Ace} {a : Ace} (h : hasM d a = true) : dstep d a = d := by unfold dstep; rw [if_pos h]
theorem dstep_no {d : List Ace} {a : Ace} (h : hasM d a = false) : dstep d a = d ++ [a] := by unfold dstep; rw [if_neg (by simp [h])]
/-- The length of the first i lists together. -/
def sumT (L : List (List Ace)) (i : Nat) : Nat := ((L.take i).map List.length).sum
theorem sumT_zero (L : List (List Ace)) : sumT L 0 = 0 := rfl
theorem sum_snoc {L : List (List Ace)} {i : Nat} (h : i < L.length) : sumT L (i + 1) = sumT L i + L[i].length := by
  unfold sumT
  rw [take_snoc h, List.map_append, List.sum_append]; simp
theorem sum_take (L : List (List Ace)) (i : Nat) : sumT L i ≤ (L.map List.length).sum := by
  unfold sumT
  have e : (L.map List.length).sum = ((L.take i).map List.length).sum + ((L.drop i).map List.length).sum := by rw [← List.sum_append, ← List.map_append, List.take_append_drop]
  omega
theorem sum_flat (L : List (List Ace)) (i : Nat) : ((L.take i).flatten.map encA).length = sumT L i := by
  unfold sumT
  rw [List.length_map, List.length_flatten]
theorem tbl_snoc {l : List Ace} {i : Nat} (h : i < l.length) : tbl (l.take (i + 1)) = putP (tbl (l.take i)) (mk l[i]) (.int .i64 l[i].rt) := by
  unfold tbl; rw [take_snoc h, List.foldl_append]; rfl
theorem any_snoc (p : Ace → Bool) (l : List Ace) (a : Ace) : (l ++ [a]).any p = (l.any p || p a) := by simp
theorem fm_snoc (x : Tri) (l : List Ace) (a : Ace) : (l ++ [a]).filterMap (keepE x) = l.filterMap (keepE x) ++ (match keepE x a with | some b => [b] | none => []) := by
  rw [List.filterMap_append]; congr 1
  cases h : keepE x a <;> simp [h]
theorem fm_len (x : Tri) (l : List Ace) : (l.filterMap (keepE x)).length ≤ l.length := List.length_filterMap_le _ _
end Go.Proofs.Ytgblfhobiibeaaa.Acl

/- Merging step by step; plain Lean. No condition. -/
set_option linter.unusedVariables false
set_option linter.unusedSimpArgs false
namespace Go.Proofs.Ytgblfhobiibeaaa.Acl
open Go.Proofs.Ytgblfhobiibeaaa.Abs

def catE (x : Tri) : List Ace := x.mine ++ x.theirs ++ x.base
def encMg (r : List Ace × Bool) : T := .agg [.slice 5 (r.1.map encA), .b r.2]
/-- The entries of the first k that count. -/
def dd (l : List Ace) (k : Nat) : List Ace := ddup (l.take k)
theorem dd_next {l : List Ace} {k : Nat} (h : k < l.length) : dd l (k + 1) = dstep (dd l k) l[k] := by unfold dd; rw [take_snoc h, ddup_snoc]
theorem dd_yes {l : List Ace} {k : Nat} (h : k < l.length) (hm : hasM (dd l k) l[k] = true) : dd l (k + 1) = dd l k := by rw [dd_next h, dstep_yes hm]
theorem dd_no {l : List Ace} {k : Nat} (h : k < l.length) (hm : hasM (dd l k) l[k] = false) : dd l (k + 1) = dd l k ++ [l[k]] := by rw [dd_next h, dstep_no hm]
theorem dd_end (l : List Ace) : dd l l.length = ddup l := by unfold dd; rw [List.take_length]
theorem dd_len (l : List Ace) (k : Nat) : (dd l k).length ≤ k := by
  unfold dd
  have h1 := ddup_len (l.take k)
  have h2 := List.length_take_le k l
  omega
theorem dd_has (l : List Ace) (k : Nat) (a : Ace) : hasM (dd l k) a = hasM (l.take k) a := hasM_ddup _ _
/-- The own entries first: nothing falls out. -/
theorem dd_app {l m : List Ace} (h : Uniq l) : ddup (l ++ m) = m.foldl dstep l := by
  unfold ddup; rw [List.foldl_append]; congr 1; exact ddup_of_uniq h
def rA (x : Tri) (i : Nat) : List Ace := ddup (x.mine ++ x.theirs.take i)
def rB (x : Tri) (i : Nat) : List Ace := ddup (x.mine ++ x.theirs ++ x.base.take i)
theorem rA_zero {x : Tri} (h : VL x.mine) : rA x 0 = x.mine := by unfold rA; simp; exact ddup_of_uniq h.un
theorem rA_end (x : Tri) : rA x x.theirs.length = rB x 0 := by unfold rA rB; simp
theorem rB_end (x : Tri) : rB x x.base.length = allE x := by unfold rB allE; simp
theorem rA_has {x : Tri} (ht : VL x.theirs) {i : Nat} (hi : i < x.theirs.length) : hasM (rA x i) x.theirs[i] = hasM x.mine x.theirs[i] := by
  unfold rA; rw [hasM_ddup, hasM_append, ht.un.hasM_take hi, Bool.or_false]
theorem rA_next {x : Tri} {i : Nat} (hi : i < x.theirs.length) : rA x (i + 1) = dstep (rA x i) x.theirs[i] := by
  unfold rA; rw [take_snoc hi, ← List.append_assoc, ddup_snoc]
theorem rA_yes {x : Tri} (hm : VL x.mine) (ht : VL x.theirs) {i : Nat} (hi : i < x.theirs.length) (h : at' x.mine x.theirs[i] = 0) : rA x (i + 1) = rA x i ++ [x.theirs[i]] := by
  rw [rA_next hi, dstep_no]
  rw [rA_has ht hi]
  exact (at_zero (fun a ha => (hm.rt1 ha).1) _).1 h
theorem rA_no {x : Tri} (hm : VL x.mine) (ht : VL x.theirs) {i : Nat} (hi : i < x.theirs.length) (h : at' x.mine x.theirs[i] ≠ 0) : rA x (i + 1) = rA x i := by
  rw [rA_next hi, dstep_yes]
  rw [rA_has ht hi]
  cases hb : hasM x.mine x.theirs[i] with
  | true => rfl
  | false => exact absurd ((at_zero (fun a ha => (hm.rt1 ha).1) _).2 hb) h
theorem mem_three {x : Tri} (hb : VL x.base) (hm : VL x.mine) (ht : VL x.theirs) {a : Ace} (h : a ∈ x.mine ++ x.theirs ++ x.base) : 1 ≤ a.rt := by
  simp only [List.mem_append] at h
  rcases h with (h | h) | h
  · exact (hm.rt1 h).1
  · exact (ht.rt1 h).1
  · exact (hb.rt1 h).1
theorem rB_rt {x : Tri} (hb : VL x.base) (hm : VL x.mine) (ht : VL x.theirs) (i : Nat) : ∀ a ∈ rB x i, 1 ≤ a.rt := by
  intro a ha
  refine mem_three hb hm ht ?_
  have := mem_ddup ha
  simp only [List.mem_append] at this ⊢
  rcases this with h | h
  · exact .inl h
  · exact .inr (List.mem_of_mem_take h)
theorem rB_next {x : Tri} {i : Nat} (hi : i < x.base.length) : rB x (i + 1) = dstep (rB x i) x.base[i] := by
  unfold rB; rw [take_snoc hi, ← List.append_assoc, ddup_snoc]
theorem rB_yes {x : Tri} (hb : VL x.base) (hm : VL x.mine) (ht : VL x.theirs) {i : Nat} (hi : i < x.base.length) (h : at' (rB x i) x.base[i] = 0) : rB x (i + 1) = rB x i ++ [x.base[i]] := by
  rw [rB_next hi, dstep_no]
  exact (at_zero (rB_rt hb hm ht i) _).1 h
theorem rB_no {x : Tri} (hb : VL x.base) (hm : VL x.mine) (ht : VL x.theirs) {i : Nat} (hi : i < x.base.length) (h : at' (rB x i) x.base[i] ≠ 0) : rB x (i + 1) = rB x i := by
  rw [rB_next hi, dstep_yes]
  cases hbb : hasM (rB x i) x.base[i] with
  | true => rfl
  | false => exact absurd ((at_zero (rB_rt hb hm ht i) _).2 hbb) h
theorem r_len {x : Tri} (hb : VL x.base) (hm : VL x.mine) (ht : VL x.theirs) (i : Nat) : (rA x i).length ≤ 32 ∧ (rB x i).length ≤ 48 ∧ (allE x).length ≤ 48 := by
  have h1 := hb.ln; have h2 := hm.ln; have h3 := ht.ln
  have e1 := ddup_len (x.mine ++ x.theirs.take i)
  have e2 := ddup_len (x.mine ++ x.theirs ++ x.base.take i)
  have e3 := ddup_len (x.mine ++ x.theirs ++ x.base)
  have f1 := List.length_take_le' i x.theirs
  have f2 := List.length_take_le' i x.base
  simp only [List.length_append] at e1 e2 e3
  unfold rA rB allE
  omega
theorem cat_len {x : Tri} (hb : VL x.base) (hm : VL x.mine) (ht : VL x.theirs) : (catE x).length ≤ 48 := by
  have h1 := hb.ln; have h2 := hm.ln; have h3 := ht.ln
  unfold catE; simp only [List.length_append]; omega
theorem m_one {x : Tri} (h : x.mine = x.base) : merge x = (x.theirs, true) := by unfold merge; rw [if_pos h]
theorem m_two {x : Tri} (h : ¬ x.mine = x.base) (h2 : x.theirs = x.base ∨ x.mine = x.theirs) : merge x = (x.mine, true) := by unfold merge; rw [if_neg h, if_pos h2]
theorem m_three {x : Tri} (h : ¬ x.mine = x.base) (h2 : ¬ x.theirs = x.base) (h3 : ¬ x.mine = x.theirs) : merge x = mergeG x := by
  unfold merge; rw [if_neg h, if_neg (by rintro (h | h); exact h2 h; exact h3 h)]
theorem g_clash {x : Tri} {a : Ace} (h : a ∈ allE x) (hc : clash x a = true) : mergeG x = ([], false) := by
  unfold mergeG
  rw [if_pos]
  rw [List.any_eq_true]; exact ⟨a, h, hc⟩
theorem g_big {x : Tri} (h : ∀ a ∈ allE x, clash x a = false) (hl : 16 < (outE x).length) : mergeG x = ([], false) := by
  unfold mergeG
  rw [if_neg, if_pos hl]
  rw [Bool.not_eq_true, List.any_eq_false]
  intro a ha; simp [h a ha]
theorem g_ok {x : Tri} (h : ∀ a ∈ allE x, clash x a = false) (hl : ¬ 16 < (outE x).length) : mergeG x = (parted (outE x), true) := by
  unfold mergeG
  rw [if_neg, if_neg hl]
  rw [Bool.not_eq_true, List.any_eq_false]
  intro a ha; simp [h a ha]
/-- What has been put out after the first k. -/
def oK (x : Tri) (l : List Ace) (k : Nat) : List Ace := (l.take k).filterMap (keepE x)
theorem oK_len (x : Tri) (l : List Ace) (k : Nat) : (oK x l k).length ≤ k := by
  unfold oK
  have h1 := fm_len x (l.take k)
  have h2 := List.length_take_le k l
  omega
theorem oK_yes {x : Tri} {l : List Ace} {k : Nat} (h : k < l.length) (hv : newRt x l[k] ≠ 0) : oK x l (k + 1) = oK x l k ++ [{ l[k] with rt := newRt x l[k] }] := by
  unfold oK; rw [take_snoc h, fm_snoc]
  have : keepE x l[k] = some { l[k] with rt := newRt x l[k] } := by unfold keepE; rw [if_neg hv]
  rw [this]
theorem oK_no {x : Tri} {l : List Ace} {k : Nat} (h : k < l.length) (hv : newRt x l[k] = 0) : oK x l (k + 1) = oK x l k := by
  unfold oK; rw [take_snoc h, fm_snoc]
  have : keepE x l[k] = none := by unfold keepE; rw [if_pos hv]
  rw [this]; simp
theorem oK_end (x : Tri) : oK x (allE x) (allE x).length = outE x := by unfold oK outE; rw [List.take_length]
/-- The same, where the entries that count are told on the way. -/
def oD (x : Tri) (k : Nat) : List Ace := (dd (catE x) k).filterMap (keepE x)
theorem oD_len (x : Tri) (k : Nat) : (oD x k).length ≤ k := by
  unfold oD
  have h1 := fm_len x (dd (catE x) k)
  have h2 := dd_len (catE x) k
  omega
theorem oD_old {x : Tri} {k : Nat} (h : k < (catE x).length) (hm : hasM (dd (catE x) k) (catE x)[k] = true) : oD x (k + 1) = oD x k := by unfold oD; rw [dd_yes h hm]
theorem oD_yes {x : Tri} {k : Nat} (h : k < (catE x).length) (hm : hasM (dd (catE x) k) (catE x)[k] = false) (hv : newRt x (catE x)[k] ≠ 0) : oD x (k + 1) = oD x k ++ [{ (catE x)[k] with rt := newRt x (catE x)[k] }] := by
  unfold oD; rw [dd_no h hm, fm_snoc]
  have : keepE x (catE x)[k] = some { (catE x)[k] with rt := newRt x (catE x)[k] } := by unfold keepE; rw [if_neg hv]
  rw [this]
theorem oD_no {x : Tri} {k : Nat} (h : k < (catE x).length) (hm : hasM (dd (catE x) k) (catE x)[k] = false) (hv : newRt x (catE x)[k] = 0) : oD x (k + 1) = oD x k := by
  unfold oD; rw [dd_no h hm, fm_snoc]
  have : keepE x (catE x)[k] = none := by unfold keepE; rw [if_pos hv]
  rw [this]; simp
theorem oD_end (x : Tri) : oD x (catE x).length = outE x := by unfold oD outE allE; rw [dd_end]; rfl
theorem dd_all {x : Tri} : dd (catE x) (catE x).length = allE x := by rw [dd_end]; rfl
/-- No clash so far. -/
def fine (x : Tri) (k : Nat) : Prop := ∀ a ∈ dd (catE x) k, clash x a = false
theorem fine_zero (x : Tri) : fine x 0 := by intro a ha; simp [dd, ddup] at ha
theorem fine_old {x : Tri} {k : Nat} (h : k < (catE x).length) (hm : hasM (dd (catE x) k) (catE x)[k] = true) (hf : fine x k) : fine x (k + 1) := by unfold fine; rw [dd_yes h hm]; exact hf
theorem fine_new {x : Tri} {k : Nat} (h : k < (catE x).length) (hm : hasM (dd (catE x) k) (catE x)[k] = false) (hf : fine x k) (hc : clash x (catE x)[k] = false) : fine x (k + 1) := by
  unfold fine; rw [dd_no h hm]
  intro a ha
  rcases List.mem_append.1 ha with ha | ha
  · exact hf a ha
  · have : a = (catE x)[k] := by simpa using ha
    rw [this]; exact hc
/-- What is there early is there at the end. -/
theorem fold_mem {a : Ace} : ∀ (l d : List Ace), a ∈ d → a ∈ l.foldl dstep d
  | [], d, h => h
  | x :: r, d, h => by
    rw [List.foldl_cons]
    refine fold_mem r _ ?_
    unfold dstep; split
    · exact h
    · simp [h]
theorem dd_mem {l : List Ace} {k : Nat} {a : Ace} (h : a ∈ dd l k) : a ∈ ddup l := by
  unfold dd ddup at *
  have e : l.foldl dstep [] = (l.drop k).foldl dstep ((l.take k).foldl dstep []) := by rw [← List.foldl_append, List.take_append_drop]
  rw [e]
  exact fold_mem _ _ h
theorem clash_here {x : Tri} {k : Nat} (h : k < (catE x).length) (hm : hasM (dd (catE x) k) (catE x)[k] = false) (hc : clash x (catE x)[k] = true) : mergeG x = ([], false) := by
  refine g_clash (a := (catE x)[k]) ?_ hc
  have : (catE x)[k] ∈ dd (catE x) (k + 1) := by rw [dd_no h hm]; simp
  exact dd_mem this
end Go.Proofs.Ytgblfhobiibeaaa.Acl

/- The lists that the laws build out of bytes; plain Lean. No condition. -/
set_option linter.unusedVariables false
set_option linter.unusedSimpArgs false
namespace Go.Proofs.Ytgblfhobiibeaaa.Acl
open Go.Proofs.Ytgblfhobiibeaaa.Abs

def whos : List Int := [-2, -1, 1, 2, 3, 999]
def ace (x : Int × Int × Int) : Ace := ⟨whos.getD (x.1 % 6).toNat 0, decide (x.1 / 6 % 2 = 0), 1 + x.2.1 % 15, 1 + x.2.2 % 3, decide (x.2.2 / 3 % 4 = 3)⟩
def encB (x : Int × Int × Int) : T := .agg [.u8 x.1, .u8 x.2.1, .u8 x.2.2]
theorem whos_at {i : Nat} (h : i < 6) : (whos.map T.i)[i]? = some (.i (whos.getD i 0)) := by
  match i, h with
  | 0, _ => rfl
  | 1, _ => rfl
  | 2, _ => rfl
  | 3, _ => rfl
  | 4, _ => rfl
  | 5, _ => rfl
theorem whos_range (i : Nat) : -2 ≤ whos.getD i 0 ∧ whos.getD i 0 ≤ 999 := by
  match i with
  | 0 => decide
  | 1 => decide
  | 2 => decide
  | 3 => decide
  | 4 => decide
  | 5 => decide
  | n + 6 => simp [whos]
theorem ace_right (x : Int × Int × Int) : right (ace x) = true := by
  have h1 := whos_range (x.1 % 6).toNat
  have h2 := Int.emod_nonneg x.2.1 (show (15 : Int) ≠ 0 by omega)
  have h3 := Int.emod_lt_of_pos x.2.1 (show (0 : Int) < 15 by omega)
  have h4 := Int.emod_nonneg x.2.2 (show (3 : Int) ≠ 0 by omega)
  have h5 := Int.emod_lt_of_pos x.2.2 (show (0 : Int) < 3 by omega)
  show (decide (-2 ≤ whos.getD (x.1 % 6).toNat 0) && decide (whos.getD (x.1 % 6).toNat 0 ≤ 999) && decide (1 ≤ 1 + x.2.1 % 15) && decide (1 + x.2.1 % 15 ≤ 15) && decide (1 ≤ 1 + x.2.2 % 3) && decide (1 + x.2.2 % 3 ≤ 3)) = true
  rw [decide_eq_true h1.1, decide_eq_true h1.2, decide_eq_true (by omega), decide_eq_true (by omega), decide_eq_true (by omega), decide_eq_true (by omega)]
  rfl
theorem ace_rt (x : Int × Int × Int) : 1 ≤ (ace x).rt := by
  have h := ace_right x
  simp only [right, Bool.and_eq_true, decide_eq_true_eq] at h
  omega
theorem quo8 {m n : Int} (h : 0 ≤ m ∧ m ≤ 255) (hn : 0 < n) : IntKind.u8.wrap (m.tdiv n) = m / n := by
  have h1 : m.tdiv n = m / n := Int.tdiv_eq_ediv_of_nonneg h.1
  have h2 : 0 ≤ m / n := Int.ediv_nonneg h.1 (by omega)
  have h3 : m / n ≤ m := Int.ediv_le_self n h.1
  rw [h1]
  unfold IntKind.wrap
  simp only [IntKind.bits, IntKind.signed]
  simp
  omega
def gath (l : List (Int × Int × Int)) (i : Nat) : List Ace := ddup ((l.take i).map ace)
def listA (l : List (Int × Int × Int)) : List Ace := parted (gath l 12)
theorem gath_snoc {l : List (Int × Int × Int)} {i : Nat} (h : i < l.length) : gath l (i + 1) = dstep (gath l i) (ace l[i]) := by
  unfold gath; rw [take_snoc h, List.map_append, List.map_cons, List.map_nil, ddup_snoc]
theorem gath_len (l : List (Int × Int × Int)) (i : Nat) : (gath l i).length ≤ i ∧ (gath l i).length ≤ l.length := by
  have h := ddup_len ((l.take i).map ace)
  have h1 := List.length_take_le i l
  have h2 := List.length_take_le' i l
  simp only [List.length_map] at h
  unfold gath
  omega
theorem gath_rt (l : List (Int × Int × Int)) (i : Nat) : ∀ a ∈ gath l i, right a = true := by
  intro a ha
  obtain ⟨x, _, rfl⟩ := List.mem_map.1 (mem_ddup ha)
  exact ace_right x
theorem gath_rt1 (l : List (Int × Int × Int)) (i : Nat) : ∀ a ∈ gath l i, 1 ≤ a.rt := by
  intro a ha
  obtain ⟨x, _, rfl⟩ := List.mem_map.1 (mem_ddup ha)
  exact ace_rt x
theorem gath_new {l : List (Int × Int × Int)} {i : Nat} (h : i < l.length) (h0 : at' (gath l i) (ace l[i]) = 0) : gath l (i + 1) = gath l i ++ [ace l[i]] := by
  rw [gath_snoc h, dstep_no ((at_zero (gath_rt1 l i) _).1 h0)]
theorem gath_old {l : List (Int × Int × Int)} {i : Nat} (h : i < l.length) (h0 : at' (gath l i) (ace l[i]) ≠ 0) : gath l (i + 1) = gath l i := by
  have h1 : hasM (gath l i) (ace l[i]) = true := by
    cases hc : hasM (gath l i) (ace l[i]) with
    | true => rfl
    | false => exact absurd ((at_zero (gath_rt1 l i) _).2 hc) h0
  rw [gath_snoc h, dstep_yes h1]
theorem gath_end {l : List (Int × Int × Int)} {i : Nat} (hi : i ≤ l.length) (h12 : i ≤ 12) (h : ¬ i < l.length ∨ ¬ i < 12) : gath l i = gath l 12 := by
  rcases h with h | h
  · unfold gath; rw [List.take_of_length_le (by omega), List.take_of_length_le (by omega)]
  · rw [show i = 12 by omega]
theorem parted_uniq {l : List Ace} (h : Uniq l) : Uniq (parted l) := by
  unfold parted Uniq
  rw [List.pairwise_append]
  refine ⟨h.sublist List.filter_sublist, h.sublist List.filter_sublist, ?_⟩
  intro a ha b hb he
  have h1 := (mem_own.1 ha).2
  have h2 := (mem_own.1 hb).2
  have h3 : a.gv = b.gv := congrArg Mk.gv he
  rw [h1, h2] at h3
  cases h3
theorem parted_gl (l : List Ace) : (parted l).Pairwise fun a b => a.gv = true → b.gv = true := by
  unfold parted
  rw [List.pairwise_append]
  refine ⟨?_, ?_, ?_⟩
  · rw [List.pairwise_iff_getElem]
    intro i j hi hj _ hg
    rw [(mem_own.1 (List.getElem_mem hi)).2] at hg
    cases hg
  · rw [List.pairwise_iff_getElem]
    intro i j hi hj _ _
    exact (mem_own.1 (List.getElem_mem hj)).2
  · intro a ha b hb hg
    exact (mem_own.1 hb).2
theorem mem_parted {l : List Ace} {a : Ace} : a ∈ parted l ↔ a ∈ l := by
  unfold parted
  rw [List.mem_append, mem_own, mem_own]
  cases a.gv <;> simp
theorem listA_len (l : List (Int × Int × Int)) : (listA l).length ≤ 12 ∧ (listA l).length ≤ l.length := by
  unfold listA; rw [parted_len]; exact gath_len l 12
theorem listA_VL (l : List (Int × Int × Int)) : VL (listA l) where
  rt := fun a ha => gath_rt l 12 a (mem_parted.1 ha)
  un := parted_uniq (ddup_uniq _)
  gl := parted_gl _
  ln := by have := listA_len l; omega
end Go.Proofs.Ytgblfhobiibeaaa.Acl

/- Lengths of what the functions give; plain Lean. No condition. -/
set_option linter.unusedVariables false
set_option linter.unusedSimpArgs false
namespace Go.Proofs.Ytgblfhobiibeaaa.Acl
open Go.Proofs.Ytgblfhobiibeaaa.Abs

theorem put_len (l : List Ace) (e : Ace) : (put l e).1.length ≤ 16 := by
  unfold put
  split
  · split
    · simp
    · show (putL l e).length ≤ 16; omega
  · simp
theorem again_len (l m : List Ace) (d : Bool) : (own l false ++ child m d).length ≤ l.length + m.length := by
  have h1 := own_len l false
  have h2 := child_len m d
  rw [List.length_append]; omega
theorem merge_len {x : Tri} (hm : VL x.mine) (ht : VL x.theirs) : (merge x).1.length ≤ 16 := by
  have h1 := hm.ln
  have h2 := ht.ln
  unfold merge mergeG
  split
  · exact h2
  · split
    · exact h1
    · split
      · simp
      · split
        · simp
        · show (parted (outE x)).length ≤ 16; rw [parted_len]; simp_all
end Go.Proofs.Ytgblfhobiibeaaa.Acl

/- Lists that inherit; plain Lean. No condition. -/
set_option linter.unusedVariables false
set_option linter.unusedSimpArgs false
namespace Go.Proofs.Ytgblfhobiibeaaa.Acl
open Go.Proofs.Ytgblfhobiibeaaa.Abs

theorem child_nil (d : Bool) : child [] d = [] := rfl
theorem cstep_gv {d : Bool} {out : List Ace} {e : Ace} (h : ∀ a ∈ out, a.gv = true) : ∀ a ∈ cstep d out e, a.gv = true := by
  unfold cstep
  split
  · split
    · intro a ha
      obtain ⟨b, hb, rfl⟩ := List.mem_map.1 ha
      have := h b hb
      unfold upd1; split <;> simp [this]
    · intro a ha
      rcases List.mem_append.1 ha with ha | ha
      · exact h a ha
      · simp at ha; subst ha; rfl
  · exact h
theorem fold_gv (d : Bool) : ∀ (l out : List Ace), (∀ a ∈ out, a.gv = true) → ∀ a ∈ l.foldl (cstep d) out, a.gv = true
  | [], out, h => h
  | e :: r, out, h => by rw [List.foldl_cons]; exact fold_gv d r _ (cstep_gv h)
theorem child_gv (l : List Ace) (d : Bool) : ∀ a ∈ child l d, a.gv = true := fold_gv d l [] (by simp)
theorem own_own (l : List Ace) (g : Bool) : own (own l g) g = own l g := by unfold own; rw [List.filter_filter]; simp
theorem own_other (l : List Ace) (g : Bool) (h : ∀ a ∈ l, a.gv = !g) : own l g = [] := by
  unfold own
  rw [List.filter_eq_nil_iff]
  intro a ha
  rw [h a ha]; cases g <;> decide
theorem own_all (l : List Ace) (g : Bool) (h : ∀ a ∈ l, a.gv = g) : own l g = l := by
  unfold own
  rw [List.filter_eq_self]
  intro a ha
  rw [h a ha]; cases g <;> rfl
theorem own_append (l m : List Ace) (g : Bool) : own (l ++ m) g = own l g ++ own m g := by unfold own; rw [List.filter_append]
theorem own_again (l m : List Ace) (d : Bool) : own (own l false ++ child m d) false = own l false := by
  rw [own_append, own_own, own_other (child m d) false (fun a ha => child_gv m d a ha), List.append_nil]
theorem own_again1 (l m : List Ace) (d : Bool) : own (own l false ++ child m d) true = child m d := by
  rw [own_append, own_other (own l false) true (fun a ha => (mem_own.1 ha).2), own_all (child m d) true (child_gv m d), List.nil_append]
end Go.Proofs.Ytgblfhobiibeaaa.Acl

/- Limits of lists of rights; plain Lean. No condition. -/
set_option linter.unusedVariables false
set_option linter.unusedSimpArgs false
namespace Go.Proofs.Ytgblfhobiibeaaa.Acl
open Go.Proofs.Ytgblfhobiibeaaa.Abs

def limE (i : Nat) : Ace := ⟨100 + (i : Int), true, 1 + (i : Int) % 15, 1 + (i : Int) % 3, decide ((10 : Int) ≤ (i : Int))⟩
def limL (n : Nat) : List Ace := (List.range n).map limE
theorem limL_succ (n : Nat) : limL (n + 1) = limL n ++ [limE n] := by simp [limL, List.range_succ]
theorem lim_len (n : Nat) : (limL n).length = n := by simp [limL]
theorem lim_get {n i : Nat} (h : i < n) : (limL n)[i]? = some (limE i) := by simp [limL, h]
theorem lim_valid : ∀ n, n < 20 → valid (limL n) = decide (n ≤ 16) := by decide +kernel
theorem lim_order : ∀ m, m < 19 → 10 ≤ m → valid [limE m, limE 0] = false := by decide +kernel
def limP : Ace := ⟨1, false, 1, 1, false⟩
theorem lim_put : ∀ n, n < 20 → (put (limL n) limP).2 = if n = 16 then 2 else if 16 < n then 20 else 0 := by decide +kernel
theorem valid_one (e : Ace) : valid [e] = right e := by
  rw [Bool.eq_iff_iff, valid_VL]
  constructor
  · intro h; exact h.rt e (by simp)
  · intro h
    refine ⟨fun a ha => ?_, ?_, ?_, by simp⟩
    · simp at ha; subst ha; exact h
    · simp [Uniq]
    · simp
end Go.Proofs.Ytgblfhobiibeaaa.Acl

/- Putting an entry; plain Lean. No condition. -/
set_option linter.unusedVariables false
set_option linter.unusedSimpArgs false
namespace Go.Proofs.Ytgblfhobiibeaaa.Acl
open Go.Proofs.Ytgblfhobiibeaaa.Abs

def nm (e a : Ace) : Bool := !marked a e
/-- What is asked of a list that an entry was put into. -/
structure PutGood (z : List Ace) (e : Ace) (r : List Ace) : Prop where
  vl : VL r
  ln : r.length ≤ 13
  rt : at' r e = e.rt
  rest : r.filter (nm e) = z.filter (nm e)
  again : (put r e).1 = r ∧ (put r e).2 = 0
theorem at_none {l : List Ace} {e : Ace} (h : hasM l e = false) : at' l e = 0 := by
  unfold at'
  unfold hasM at h
  rw [List.any_eq_false] at h
  rw [List.find?_eq_none.2 h]
theorem at_mem {l : List Ace} (hu : Uniq l) {a : Ace} (ha : a ∈ l) {e : Ace} (hm : mk a = mk e) : at' l e = a.rt := by
  unfold at'
  cases hf : l.find? (fun b => marked b e) with
  | none =>
    rw [List.find?_eq_none] at hf
    exact absurd (by simp [marked, hm]) (hf a ha)
  | some b =>
    have h1 := List.find?_some hf
    have h2 := List.mem_of_find?_eq_some hf
    obtain ⟨i, hi, rfl⟩ := List.getElem_of_mem ha
    obtain ⟨j, hj, rfl⟩ := List.getElem_of_mem h2
    have : i = j := hu.inj hi hj (by rw [hm]; exact (by simpa [marked] using h1 : mk l[j] = mk e).symm)
    subst this; rfl
theorem VL.sub {l m : List Ace} (h : VL l) (hs : m.Sublist l) : VL m where
  rt := fun a ha => h.rt a (hs.subset ha)
  un := h.un.sublist hs
  gl := h.gl.sublist hs
  ln := by have := hs.length_le; have := h.ln; omega
theorem filter_nm_self {l : List Ace} {e : Ace} (h : hasM l e = false) : l.filter (nm e) = l := by
  rw [List.filter_eq_self]
  intro a ha
  unfold hasM at h
  rw [List.any_eq_false] at h
  have := h a ha
  unfold nm; simpa using this
theorem hasM_filter (l : List Ace) (e : Ace) : hasM (l.filter (nm e)) e = false := by
  unfold hasM
  rw [List.any_eq_false]
  intro a ha
  have := (List.mem_filter.1 ha).2
  unfold nm at this; simpa using this
theorem e1_pos {e : Ace} (h : e.rt ≠ 0) (z : Int) : e1 e z = e := by unfold e1; rw [if_neg h]
theorem put_ok_of {l : List Ace} {e : Ace} (h : VL l) (hg : e.gv = false) (hr : right (e1 e 1) = true) : putOk l e = true := by
  unfold putOk
  rw [(valid_VL l).2 h, hg, hr]; rfl
theorem set_same {l : List Ace} {e : Ace} {q : Nat} (hq : q < l.length) (h : l[q] = e) : l.set q e = l := by subst h; exact List.set_getElem_self hq
theorem put_good {z : List Ace} {e : Ace} (h : VL z) (hl : z.length ≤ 12) (hg : e.gv = false) (hr : right (e1 e 1) = true) : PutGood z e (put z e).1 ∧ (put z e).2 = 0 := by
  have hok := put_ok_of h hg hr
  by_cases hz : e.rt = 0
  · rw [put_c0 hok hz]
    have hvl : VL (z.filter (fun a => !marked a e)) := h.sub List.filter_sublist
    have hno : hasM (z.filter (fun a => !marked a e)) e = false := hasM_filter z e
    refine ⟨⟨hvl, ?_, ?_, ?_, ?_⟩, rfl⟩
    · have := List.length_filter_le (fun a => !marked a e) z; show (z.filter _).length ≤ 13; omega
    · show at' (z.filter _) e = e.rt
      rw [at_none hno, hz]
    · show (z.filter (nm e)).filter (nm e) = z.filter (nm e)
      rw [List.filter_filter]; simp
    · have hok2 := put_ok_of hvl hg hr
      show (put (z.filter _) e).1 = z.filter _ ∧ (put (z.filter _) e).2 = 0
      rw [put_c0 hok2 hz]
      exact ⟨filter_nm_self hno, rfl⟩
  · have hre : right e = true := by rw [e1_pos hz] at hr; exact hr
    cases hh : hasM z e with
    | true =>
      obtain ⟨q, hq, _, hm⟩ := has_idx hh
      rw [put_c1 hok hz hq hm]
      have hmk : mk z[q] = mk e := by simpa [marked] using hm
      have hset : z.set q e = z.map (setR e) := by
        apply List.ext_getElem
        · simp
        · intro p h1 h2
          have hp : p < z.length := by simpa using h1
          simp only [List.getElem_map]
          by_cases hqp : q = p
          · subst hqp; rw [List.getElem_set_self, setR_yes hm]
          · rw [List.getElem_set_ne hqp, setR_no]
            cases hb : marked z[p] e with
            | false => rfl
            | true => exact absurd (h.un.inj hq hp (hmk.trans (by simpa [marked] using hb : mk z[p] = mk e).symm)) hqp
      have hmem : e ∈ z.set q e := List.mem_set hq e
      have hmarks : ∀ p (h1 : p < (z.set q e).length), mk (z.set q e)[p] = mk (z[p]'(by simpa using h1)) := by
        intro p h1
        by_cases hqp : q = p
        · subst hqp; rw [List.getElem_set_self, hmk]
        · rw [List.getElem_set_ne hqp]
      have hun : Uniq (z.set q e) := by
        have hu := h.un
        unfold Uniq at hu ⊢
        rw [List.pairwise_iff_getElem] at hu ⊢
        intro i j hi hj hij
        rw [hmarks i hi, hmarks j hj]
        exact hu i j _ _ hij
      have hgl : (z.set q e).Pairwise fun a b => a.gv = true → b.gv = true := by
        have hu := h.gl
        rw [List.pairwise_iff_getElem] at hu ⊢
        intro i j hi hj hij
        have e1 : (z.set q e)[i].gv = (z[i]'(by simpa using hi)).gv := congrArg Mk.gv (hmarks i hi)
        have e2 : (z.set q e)[j].gv = (z[j]'(by simpa using hj)).gv := congrArg Mk.gv (hmarks j hj)
        rw [e1, e2]
        exact hu i j _ _ hij
      have hvl : VL (z.set q e) := ⟨fun a ha => by
        rcases List.mem_or_eq_of_mem_set ha with ha | rfl
        · exact h.rt a ha
        · exact hre, hun, hgl, by simpa using h.ln⟩
      refine ⟨⟨hvl, by show (z.set q e).length ≤ 13; simp; omega, at_mem hun hmem rfl, ?_, ?_⟩, rfl⟩
      · show (z.set q e).filter (nm e) = z.filter (nm e)
        rw [hset]
        clear hset hmem hmarks hun hgl hvl hl hok hh hmk
        clear hm hq
        have : ∀ l : List Ace, (l.map (setR e)).filter (nm e) = l.filter (nm e) := by
          intro l
          induction l with
          | nil => rfl
          | cons a r ih =>
            rw [List.map_cons]
            cases hb : marked a e with
            | true => rw [setR_yes hb, List.filter_cons_of_neg (by simp [nm, marked_self]), List.filter_cons_of_neg (by simp [nm, hb]), ih]
            | false => rw [setR_no hb, List.filter_cons_of_pos (by simp [nm, hb]), List.filter_cons_of_pos (by simp [nm, hb]), ih]
        exact this z
      · have hok2 := put_ok_of hvl hg hr
        have hq2 : q < (z.set q e).length := by simpa using hq
        show (put (z.set q e) e).1 = z.set q e ∧ (put (z.set q e) e).2 = 0
        rw [put_c1 hok2 hz hq2 (by rw [List.getElem_set_self]; exact marked_self e)]
        exact ⟨by simp, rfl⟩
    | false =>
      have h16 : z.length ≠ 16 := by omega
      rw [put_c3 hok hz hh h16]
      have hsp := h.split
      have hcut : z.take (own z false).length ++ e :: z.drop (own z false).length = own z false ++ e :: own z true := by
        conv => lhs; rw [hsp]
        rw [own_append, own_own, own_other (own z true) false (fun a ha => (mem_own.1 ha).2), List.append_nil]
        simp
      rw [hcut]
      have hmem : e ∈ own z false ++ e :: own z true := by simp
      have hsub : ∀ a ∈ own z false ++ e :: own z true, a = e ∨ a ∈ z := by
        intro a ha
        rcases List.mem_append.1 ha with ha | ha
        · exact .inr (mem_own.1 ha).1
        · rcases List.mem_cons.1 ha with rfl | ha
          · exact .inl rfl
          · exact .inr (mem_own.1 ha).1
      have hnz : ∀ a ∈ z, mk a ≠ mk e := by
        intro a ha he
        have : hasM z e = true := hasM_iff.2 ⟨a, ha, he⟩
        rw [hh] at this; cases this
      have hun : Uniq (own z false ++ e :: own z true) := by
        have hu := h.un
        rw [hsp] at hu
        unfold Uniq at hu ⊢
        rw [List.pairwise_append] at hu ⊢
        refine ⟨hu.1, ?_, ?_⟩
        · rw [List.pairwise_cons]
          exact ⟨fun a ha he => hnz a (mem_own.1 ha).1 he.symm, hu.2.1⟩
        · intro a ha b hb
          rcases List.mem_cons.1 hb with rfl | hb
          · exact hnz a (mem_own.1 ha).1
          · exact hu.2.2 a ha b hb
      have hgl : (own z false ++ e :: own z true).Pairwise fun a b => a.gv = true → b.gv = true := by
        have hu := h.gl
        rw [hsp] at hu
        rw [List.pairwise_append] at hu ⊢
        refine ⟨hu.1, ?_, ?_⟩
        · rw [List.pairwise_cons]
          exact ⟨fun a ha he => (by rw [hg] at he; cases he), hu.2.1⟩
        · intro a ha b hb hag
          rw [(mem_own.1 ha).2] at hag; cases hag
      have hlen : (own z false ++ e :: own z true).length = z.length + 1 := by
        have := congrArg List.length hsp
        simp only [List.length_append, List.length_cons] at this ⊢; omega
      have hvl : VL (own z false ++ e :: own z true) := ⟨fun a ha => by
        rcases hsub a ha with rfl | ha
        · exact hre
        · exact h.rt a ha, hun, hgl, by omega⟩
      refine ⟨⟨hvl, by show (own z false ++ e :: own z true).length ≤ 13; omega, at_mem hun hmem rfl, ?_, ?_⟩, rfl⟩
      · show (own z false ++ e :: own z true).filter (nm e) = z.filter (nm e)
        rw [List.filter_append, List.filter_cons_of_neg (by simp [nm, marked_self]), ← List.filter_append, ← hsp]
      · have hok2 := put_ok_of hvl hg hr
        obtain ⟨q, hq, hqe⟩ := List.getElem_of_mem hmem
        show (put (own z false ++ e :: own z true) e).1 = own z false ++ e :: own z true ∧ (put (own z false ++ e :: own z true) e).2 = 0
        rw [put_c1 hok2 hz hq (by rw [hqe]; exact marked_self e)]
        refine ⟨?_, rfl⟩
        show (own z false ++ e :: own z true).set q e = _
        exact set_same hq hqe
end Go.Proofs.Ytgblfhobiibeaaa.Acl

/- Walking two lists that differ by one mark; plain Lean. No condition. -/
set_option linter.unusedVariables false
set_option linter.unusedSimpArgs false
namespace Go.Proofs.Ytgblfhobiibeaaa.Acl
open Go.Proofs.Ytgblfhobiibeaaa.Abs

def rst (e : Ace) (l : List Ace) (k : Nat) : List Ace := (l.drop k).filter (nm e)
theorem rst_zero (e : Ace) (l : List Ace) : rst e l 0 = l.filter (nm e) := rfl
theorem rst_mark {e : Ace} {l : List Ace} {k : Nat} (h : k < l.length) (hm : marked l[k] e = true) : rst e l (k + 1) = rst e l k := by
  unfold rst
  rw [List.drop_eq_getElem_cons h, List.filter_cons_of_neg (by simp [nm, hm])]
theorem rst_keep {e : Ace} {l : List Ace} {k : Nat} (h : k < l.length) (hm : marked l[k] e = false) : rst e l k = l[k] :: rst e l (k + 1) := by
  unfold rst
  rw [List.drop_eq_getElem_cons h, List.filter_cons_of_pos (by simp [nm, hm])]
theorem rst_past {e : Ace} {l : List Ace} {k : Nat} (h : ¬ k < l.length) : rst e l k = [] := by
  unfold rst
  rw [List.drop_of_length_le (by omega)]; rfl
theorem rst_lt {e : Ace} {z r : List Ace} {i j : Nat} (hi : i < z.length) (hm : marked z[i] e = false) (h : rst e r j = rst e z i) : j < r.length := by
  by_cases hj : j < r.length
  · exact hj
  · rw [rst_past hj, rst_keep hi hm] at h; cases h
theorem rst_step {e : Ace} {z r : List Ace} {i j : Nat} (hi : i < z.length) (hm : marked z[i] e = false) (h : rst e r j = rst e z i) (hj : j < r.length) (hn : marked r[j] e = false) : r[j] = z[i] ∧ rst e r (j + 1) = rst e z (i + 1) := by
  rw [rst_keep hi hm, rst_keep hj hn] at h
  injection h with h1 h2
  exact ⟨h1, h2⟩
theorem rst_end {e : Ace} {z r : List Ace} {i j : Nat} (hi : ¬ i < z.length) (hu : Uniq r) (hj : j ≤ r.length) (h : rst e r j = rst e z i) : r.length - j ≤ 1 := by
  rw [rst_past hi] at h
  unfold rst at h
  rw [List.filter_eq_nil_iff] at h
  by_cases hc : r.length - j ≤ 1
  · exact hc
  · have a1 := h r[j] (by rw [List.mem_iff_getElem]; exact ⟨0, by simp; omega, by simp⟩)
    have a2 := h r[j + 1] (by rw [List.mem_iff_getElem]; exact ⟨1, by simp; omega, by simp⟩)
    have b1 : mk r[j] = mk e := by simpa [nm, marked] using a1
    have b2 : mk r[j + 1] = mk e := by simpa [nm, marked] using a2
    have := hu.inj (i := j) (j := j + 1) (by omega) (by omega) (b1.trans b2.symm)
    omega
def pE (x : Int × Int × Int) (d : Bool) : Ace := { ace x with gv := false, rt := if d then 0 else (ace x).rt }
theorem pE_gv (x : Int × Int × Int) (d : Bool) : (pE x d).gv = false := rfl
theorem pE_right (x : Int × Int × Int) (d : Bool) : right (e1 (pE x d) 1) = true := by
  have h := ace_right x
  have h1 := ace_rt x
  cases d with
  | true =>
    unfold e1 pE
    simp only [right, Bool.and_eq_true, decide_eq_true_eq] at h ⊢
    simp
    omega
  | false =>
    have hz : (pE x false).rt ≠ 0 := by show (ace x).rt ≠ 0; omega
    rw [e1_pos hz]
    exact h
end Go.Proofs.Ytgblfhobiibeaaa.Acl

/- What one more entry does to rights; plain Lean. No condition. -/
set_option linter.unusedVariables false
set_option linter.unusedSimpArgs false
namespace Go.Proofs.Ytgblfhobiibeaaa.Acl
open Go.Proofs.Ytgblfhobiibeaaa.Abs

theorem tb_rights (l : List Ace) (who owner : Int) (k : Nat) : tb (rights l who owner) k = (decide (k < 4) && hasR l who owner (pw k)) := by
  rw [← rights_eq]
  unfold rightsA
  by_cases h0 : who = 0
  · rw [if_pos h0, tb15]
    simp [hasR, h0]
  · rw [if_neg h0]
    obtain ⟨g1, g2, g3⟩ := fold_bits who owner l 0 15 (fun k _ => tb0 k) (fun k hk => by rw [tb15]; simp; omega) (by decide)
    have e : ∀ k, k < 4 → tb (l.foldl (rstep who owner) (0, 15)).1 k = has l who owner (pw k) := fun k hk => by rw [g3 k hk, tb0, tb15]; simp [hk]
    by_cases hk : k < 4
    · rw [decide_eq_true hk, Bool.true_and]
      by_cases ho : who = owner
      · rw [if_pos ho, tb_or, e k hk, tb8]
        unfold hasR
        have h8 : (pw k = 8) ↔ k = 3 := by
          match k, hk with
          | 0, _ => decide
          | 1, _ => decide
          | 2, _ => decide
          | 3, _ => decide
        simp [h0, ho, h8]
        simp only [ho] at h0
        simp [h0]
      · rw [if_neg ho, e k hk]
        simp [hasR, h0, ho]
    · rw [decide_eq_false hk, Bool.false_and]
      split
      · rw [tb_or, g1 k (by omega), tb8]; simp; omega
      · exact g1 k (by omega)
theorem tb_ext {m n : Int} (hm : (B m).toInt = m) (hn : (B n).toInt = n) (h : ∀ k, k < 64 → tb m k = tb n k) : m = n := by
  have : B m = B n := BitVec.eq_of_getLsbD_eq fun i hi => h i hi
  rw [← hm, ← hn, this]
theorem B_small : ∀ n : Nat, n < 16 → (BitVec.ofNat 64 n).toInt = n := by decide
theorem B_in {m : Int} (h : 0 ≤ m ∧ m ≤ 15) : (B m).toInt = m := by
  obtain ⟨n, rfl⟩ : ∃ n : Nat, m = n := ⟨m.toNat, by omega⟩
  have : B (n : Int) = BitVec.ofNat 64 n := BitVec.ofInt_natCast 64 n
  rw [this, B_small n (by omega)]
theorem B_rights (l : List Ace) (who owner : Int) : (B (rights l who owner)).toInt = rights l who owner := B_in (rights_range l who owner)
theorem B_iOr (m n : Int) : (B (iOr m n)).toInt = iOr m n := by rw [B_or, ← iOr_eq]
theorem B_iAnd (m n : Int) : (B (iAnd m n)).toInt = iAnd m n := by rw [B_and, ← iAnd_eq]
theorem B_iAndNot (m n : Int) : (B (iAndNot m n)).toInt = iAndNot m n := by rw [B_andNot, ← iAndNot_eq]
theorem B_zero : (B 0).toInt = 0 := by decide
theorem B_eight : (B 8).toInt = 8 := by decide
theorem rights_zero (l : List Ace) (owner : Int) : rights l 0 owner = 15 := by rw [← rights_eq]; unfold rightsA; rw [if_pos rfl]
theorem and8 {l : List Ace} {who owner : Int} (h : who = 0 ∨ who = owner) : iAnd (rights l who owner) 8 = 8 := by
  refine tb_ext (B_iAnd _ _) B_eight fun k hk => ?_
  rw [tb_and, tb_rights, tb8]
  by_cases h3 : k = 3
  · subst h3
    rcases h with h | h <;> simp [hasR, h, pw]
  · simp [h3]
theorem tb_high {m : Int} (h : 0 ≤ m ∧ m ≤ 15) {k : Nat} (hk : 4 ≤ k) : tb m k = false := by
  obtain ⟨n, rfl⟩ : ∃ n : Nat, m = n := ⟨m.toNat, by omega⟩
  have : B (n : Int) = BitVec.ofNat 64 n := BitVec.ofInt_natCast 64 n
  unfold tb
  rw [this, BitVec.getLsbD_ofNat]
  have h2 : n.testBit k = false := Nat.testBit_lt_two_pow (by
    have : (2 : Nat) ^ 4 ≤ 2 ^ k := Nat.pow_le_pow_right (by omega) hk
    have : (2 : Nat) ^ 4 = 16 := rfl
    omega)
  rw [h2]; simp
section
variable {z : List Ace} {e : Ace} {who owner : Int} (h0 : who ≠ 0) (ho : who ≠ owner)
include h0 ho
theorem hasR_plain (l : List Ace) (r : Int) : hasR l who owner r = has l who owner r := by simp [hasR, h0, ho]
theorem tb_plain (l : List Ace) (k : Nat) : tb (rights l who owner) k = (decide (k < 4) && has l who owner (pw k)) := by rw [tb_rights, hasR_plain h0 ho]
omit h0 ho
theorem hasP_bit (k : Nat) (hk : k < 4) : hasP who owner (pw k) e = (counts e who owner && tb e.rt k) := by
  unfold hasP
  cases hc : counts e who owner with
  | false => rfl
  | true =>
    rw [Bool.true_and, Bool.true_and, Bool.eq_iff_iff, decide_eq_true_eq]
    exact iAnd_pw e.rt hk
theorem has_first (k : Nat) (hk : k < 4) : has (e :: z) who owner (pw k) = if counts e who owner && tb e.rt k then e.al else has z who owner (pw k) := by
  unfold has
  rw [List.find?_cons, hasP_bit k hk]
  cases (counts e who owner && tb e.rt k) <;> rfl
theorem has_last (r : Int) : has z who owner r = true → has (z ++ [e]) who owner r = true := by
  intro h
  unfold has at h ⊢
  rw [List.find?_append]
  cases hf : z.find? (hasP who owner r) with
  | none => rw [hf] at h; cases h
  | some a => rw [hf] at h; exact h
theorem has_last_deny (r : Int) (h : e.al = false ∨ hasP who owner r e = false) : has (z ++ [e]) who owner r = has z who owner r := by
  unfold has
  rw [List.find?_append]
  cases hf : z.find? (hasP who owner r) with
  | some a => rfl
  | none =>
    simp only [Option.none_or]
    rw [List.find?_cons]
    cases hp : hasP who owner r e with
    | false => rfl
    | true =>
      rcases h with h | h
      · exact h
      · rw [hp] at h; cases h
include h0 ho
theorem last_keeps : iAndNot (rights z who owner) (rights (z ++ [e]) who owner) = 0 := by
  refine tb_ext (B_iAndNot _ _) B_zero fun k hk => ?_
  rw [tb_andNot _ _ _ hk, tb0, tb_plain h0 ho, tb_plain h0 ho]
  cases h1 : has z who owner (pw k) with
  | false => simp
  | true => rw [has_last _ h1]; simp
theorem last_deny (h : e.al = false) : rights (z ++ [e]) who owner = rights z who owner := by
  refine tb_ext (B_rights _ _ _) (B_rights _ _ _) fun k hk => ?_
  rw [tb_plain h0 ho, tb_plain h0 ho, has_last_deny _ (.inl h)]
theorem last_other (h : counts e who owner = false) : rights (z ++ [e]) who owner = rights z who owner := by
  refine tb_ext (B_rights _ _ _) (B_rights _ _ _) fun k hk => ?_
  rw [tb_plain h0 ho, tb_plain h0 ho, has_last_deny _ (.inr (by unfold hasP; rw [h]; rfl))]
theorem first_other (h : counts e who owner = false) : rights (e :: z) who owner = rights z who owner := by
  refine tb_ext (B_rights _ _ _) (B_rights _ _ _) fun k hk => ?_
  rw [tb_plain h0 ho, tb_plain h0 ho]
  by_cases h4 : k < 4
  · rw [has_first k h4, h]; simp
  · simp [h4]
theorem first_allow (h : counts e who owner = true) (ha : e.al = true) (hr : 0 ≤ e.rt ∧ e.rt ≤ 15) : rights (e :: z) who owner = iOr (rights z who owner) e.rt := by
  refine tb_ext (B_rights _ _ _) (B_iOr _ _) fun k hk => ?_
  rw [tb_or, tb_plain h0 ho, tb_plain h0 ho]
  by_cases h4 : k < 4
  · rw [has_first k h4, h, ha, decide_eq_true h4]; cases tb e.rt k <;> simp
  · rw [tb_high hr (by omega), decide_eq_false h4]; rfl
theorem first_deny (h : counts e who owner = true) (ha : e.al = false) (hr : 0 ≤ e.rt ∧ e.rt ≤ 15) : rights (e :: z) who owner = iAndNot (rights z who owner) e.rt := by
  refine tb_ext (B_rights _ _ _) (B_iAndNot _ _) fun k hk => ?_
  rw [tb_andNot _ _ _ hk, tb_plain h0 ho, tb_plain h0 ho]
  by_cases h4 : k < 4
  · rw [has_first k h4, h, ha, decide_eq_true h4]; cases tb e.rt k <;> simp
  · rw [decide_eq_false h4]; rfl
end
end Go.Proofs.Ytgblfhobiibeaaa.Acl

/- What a child inherits; plain Lean. No condition. -/
set_option linter.unusedVariables false
set_option linter.unusedSimpArgs false
namespace Go.Proofs.Ytgblfhobiibeaaa.Acl
open Go.Proofs.Ytgblfhobiibeaaa.Abs

/-- All the rights of the entries that a test picks. -/
def orS (p : Ace → Bool) (l : List Ace) : Int := l.foldl (fun s a => if p a then iOr s a.rt else s) 0
theorem orS_snoc (p : Ace → Bool) (l : List Ace) (a : Ace) : orS p (l ++ [a]) = if p a then iOr (orS p l) a.rt else orS p l := by
  unfold orS; rw [List.foldl_append]; rfl
theorem orS_fold (p : Ace → Bool) (k : Nat) : ∀ (l : List Ace) (s : Int), (B s).toInt = s →
    tb (l.foldl (fun s a => if p a then iOr s a.rt else s) s) k = (tb s k || l.any fun a => p a && tb a.rt k) ∧ (B (l.foldl (fun s a => if p a then iOr s a.rt else s) s)).toInt = l.foldl (fun s a => if p a then iOr s a.rt else s) s
  | [], s, h => by simp [h]
  | a :: r, s, h => by
    rw [List.foldl_cons, List.any_cons]
    cases hp : p a with
    | true =>
      obtain ⟨g1, g2⟩ := orS_fold p k r (iOr s a.rt) (B_iOr _ _)
      simp only [if_true]
      exact ⟨by rw [g1, tb_or]; simp [Bool.or_assoc], g2⟩
    | false =>
      obtain ⟨g1, g2⟩ := orS_fold p k r s h
      simp only [Bool.false_eq_true, if_false]
      exact ⟨by rw [g1]; simp, g2⟩
theorem tb_orS (p : Ace → Bool) (l : List Ace) (k : Nat) : tb (orS p l) k = l.any fun a => p a && tb a.rt k := by
  unfold orS; rw [(orS_fold p k l 0 B_zero).1, tb0]; rfl
theorem B_orS (p : Ace → Bool) (l : List Ace) : (B (orS p l)).toInt = orS p l := (orS_fold p 0 l 0 B_zero).2
/-- A test of who and allow alone. -/
def pWA (w : Int) (b : Bool) (a : Ace) : Bool := decide (a.who = w) && (a.al == b)
theorem pWA_mk {w : Int} {b : Bool} {x y : Ace} (h : mk x = mk y) : pWA w b x = pWA w b y := by
  have h1 : x.who = y.who := congrArg Mk.who h
  have h2 : x.al = y.al := congrArg Mk.al h
  unfold pWA; rw [h1, h2]
theorem step_any (w : Int) (b d : Bool) (k : Nat) (out : List Ace) (e : Ace) :
    (cstep d out e).any (fun a => pWA w b a && tb a.rt k) = (out.any (fun a => pWA w b a && tb a.rt k) || (inh e && (pWA w b e && tb e.rt k))) := by
  unfold cstep
  have hce : (pWA w b (cE d e) && tb (cE d e).rt k) = (pWA w b e && tb e.rt k) := rfl
  cases hi : inh e with
  | false => simp
  | true =>
    simp only [if_true, Bool.true_and]
    cases hm : hasM out (cE d e) with
    | false =>
      simp only [Bool.false_eq_true, if_false]
      rw [List.any_append, List.any_cons, List.any_nil, Bool.or_false, hce]
    | true =>
      simp only [if_true]
      rw [List.any_map]
      have hq : ∀ a, ((fun a => pWA w b a && tb a.rt k) ∘ upd1 (cE d e)) a = ((pWA w b a && tb a.rt k) || (marked a (cE d e) && (pWA w b e && tb e.rt k))) := by
        intro a
        simp only [Function.comp]
        cases hmk : marked a (cE d e) with
        | false => rw [upd1_no hmk]; simp
        | true =>
          have he : mk a = mk (cE d e) := by simpa [marked] using hmk
          have h1 : pWA w b a = pWA w b e := (pWA_mk he).trans rfl
          rw [upd1_yes hmk]
          show (pWA w b a && tb (iOr a.rt e.rt) k) = _
          rw [tb_or, h1, Bool.true_and]
          cases pWA w b e <;> simp
      rw [show ((fun a => pWA w b a && tb a.rt k) ∘ upd1 (cE d e)) = (fun a => ((pWA w b a && tb a.rt k) || (marked a (cE d e) && (pWA w b e && tb e.rt k)))) from funext hq] 
      unfold hasM at hm
      clear hq hce
      cases hb : (pWA w b e && tb e.rt k) with
      | false => simp
      | true =>
        simp only [Bool.and_true, Bool.or_true]
        rw [List.any_eq_true] at hm ⊢
        obtain ⟨a, ha, hma⟩ := hm
        exact ⟨a, ha, by rw [hma]; simp⟩
theorem fold_any (w : Int) (b d : Bool) (k : Nat) : ∀ (l out : List Ace), (l.foldl (cstep d) out).any (fun a => pWA w b a && tb a.rt k) = (out.any (fun a => pWA w b a && tb a.rt k) || l.any fun a => inh a && (pWA w b a && tb a.rt k))
  | [], out => by simp
  | e :: r, out => by rw [List.foldl_cons, fold_any w b d k r, step_any, List.any_cons, Bool.or_assoc]
theorem child_orS (w : Int) (b d : Bool) (l : List Ace) : orS (pWA w b) (child l d) = orS (fun a => inh a && pWA w b a) l := by
  refine tb_ext (B_orS _ _) (B_orS _ _) fun k _ => ?_
  rw [tb_orS, tb_orS]
  unfold child
  rw [fold_any]
  simp [Bool.and_assoc]
/-! ### A child's child -/
theorem cE_mk (d : Bool) (x y : Ace) : mk (cE d x) = mk (cE d y) ↔ (x.who = y.who ∧ x.al = y.al) := by
  simp [mk, cE]
def kid (a : Ace) : Prop := a.gv = true ∧ a.rc = 2
theorem kid_mk {x : Ace} (h : kid x) (e : Ace) : mk x = mk (cE true e) ↔ (x.who = e.who ∧ x.al = e.al) := by
  obtain ⟨h1, h2⟩ := h
  simp only [mk, cE, Mk.mk.injEq]
  constructor
  · intro h; exact ⟨h.1, h.2.1⟩
  · intro h; exact ⟨h.1, h.2, h1, h2⟩
theorem kid_mark {x : Ace} (h : kid x) (d : Bool) (e : Ace) : marked (cE d x) (cE d e) = marked x (cE true e) := by
  unfold marked
  rw [Bool.eq_iff_iff, decide_eq_true_eq, decide_eq_true_eq, cE_mk, kid_mk h]
theorem step_kid {out : List Ace} (h : ∀ a ∈ out, kid a) (e : Ace) : ∀ a ∈ cstep true out e, kid a := by
  unfold cstep
  split
  · split
    · intro a ha
      obtain ⟨b, hb, rfl⟩ := List.mem_map.1 ha
      have := h b hb
      unfold upd1; split
      · exact this
      · exact this
    · intro a ha
      rcases List.mem_append.1 ha with ha | ha
      · exact h a ha
      · simp at ha; subst ha; exact ⟨rfl, rfl⟩
  · exact h
theorem step_both {out : List Ace} (h : ∀ a ∈ out, kid a) (d : Bool) (e : Ace) : cstep d (out.map (cE d)) e = (cstep true out e).map (cE d) := by
  unfold cstep
  cases hi : inh e with
  | false => simp
  | true =>
    simp only [if_true]
    have hm : hasM (out.map (cE d)) (cE d e) = hasM out (cE true e) := by
      unfold hasM
      rw [List.any_map, Bool.eq_iff_iff, List.any_eq_true, List.any_eq_true]
      constructor
      · rintro ⟨a, ha, hma⟩; exact ⟨a, ha, by rw [← kid_mark (h a ha) d e]; exact hma⟩
      · rintro ⟨a, ha, hma⟩; exact ⟨a, ha, by show marked (cE d a) (cE d e) = true; rw [kid_mark (h a ha) d e]; exact hma⟩
    rw [hm]
    cases hasM out (cE true e) with
    | false =>
      simp only [Bool.false_eq_true, if_false]
      rw [List.map_append]; rfl
    | true =>
      simp only [if_true]
      rw [List.map_map, List.map_map]
      refine List.map_congr_left fun a ha => ?_
      have hk := kid_mark (h a ha) d e
      show upd1 (cE d e) (cE d a) = cE d (upd1 (cE true e) a)
      cases hma : marked a (cE true e) with
      | false => rw [upd1_no hma, upd1_no (hk.trans hma)]
      | true => rw [upd1_yes hma, upd1_yes (hk.trans hma)]; rfl
theorem fold_both (d : Bool) : ∀ (l out : List Ace), (∀ a ∈ out, kid a) → l.foldl (cstep d) (out.map (cE d)) = (l.foldl (cstep true) out).map (cE d) ∧ ∀ a ∈ l.foldl (cstep true) out, kid a
  | [], out, h => ⟨rfl, h⟩
  | e :: r, out, h => by
    rw [List.foldl_cons, List.foldl_cons, step_both h]
    exact fold_both d r _ (step_kid h e)
theorem child_both (l : List Ace) (d : Bool) : child l d = (child l true).map (cE d) ∧ ∀ a ∈ child l true, kid a := fold_both d l [] (by simp)
theorem fold_kids (d : Bool) : ∀ (u pre : List Ace), (∀ a ∈ pre ++ u, kid a) → Uniq (pre ++ u) → u.foldl (cstep d) (pre.map (cE d)) = (pre ++ u).map (cE d)
  | [], pre, _, _ => by simp
  | e :: r, pre, hk, hu => by
    have hke := hk e (by simp)
    have hs : cstep d (pre.map (cE d)) e = (pre ++ [e]).map (cE d) := by
      unfold cstep
      rw [if_pos (by unfold inh; rw [hke.2]; rfl), if_neg]
      · simp
      · intro hm
        unfold hasM at hm
        rw [List.any_map, List.any_eq_true] at hm
        obtain ⟨a, ha, hma⟩ := hm
        have h1 := (cE_mk d a e).1 (by simpa [marked] using hma)
        have hka := hk a (by simp [ha])
        unfold Uniq at hu
        rw [List.pairwise_append] at hu
        refine hu.2.2 a ha e (by simp) ?_
        simp only [mk, Mk.mk.injEq]
        exact ⟨h1.1, h1.2, hka.1.trans hke.1.symm, hka.2.trans hke.2.symm⟩
    rw [List.foldl_cons, hs, fold_kids d r (pre ++ [e]) (by simpa using hk) (by simpa using hu)]
    simp
theorem child_child (l : List Ace) (d : Bool) : child (child l true) d = child l d := by
  obtain ⟨h1, h2⟩ := child_both l d
  rw [h1]
  have := fold_kids d (child l true) [] (by simpa using h2) (by simpa using child_uniq l true)
  simpa [child] using this
/-! ### A child is a valid list -/
def rcOf (d : Bool) : Int := if d then 2 else 1
theorem or_small : ∀ m, m < 16 → ∀ n, n < 16 → 1 ≤ m → 1 ≤ iOr (m : Nat) (n : Nat) ∧ iOr (m : Nat) (n : Nat) ≤ 15 := by decide +kernel
theorem or_range {m n : Int} (hm : 1 ≤ m ∧ m ≤ 15) (hn : 0 ≤ n ∧ n ≤ 15) : 1 ≤ iOr m n ∧ iOr m n ≤ 15 := by
  obtain ⟨a, rfl⟩ : ∃ a : Nat, m = a := ⟨m.toNat, by omega⟩
  obtain ⟨b, rfl⟩ : ∃ b : Nat, n = b := ⟨n.toNat, by omega⟩
  exact or_small a (by omega) b (by omega) (by omega)
theorem step_ok {d : Bool} {out : List Ace} (h : ∀ a ∈ out, right a = true ∧ a.rc = rcOf d) {e : Ace} (he : right e = true) : ∀ a ∈ cstep d out e, right a = true ∧ a.rc = rcOf d := by
  have hce : right (cE d e) = true := by
    simp only [right, Bool.and_eq_true, decide_eq_true_eq] at he
    obtain ⟨⟨⟨⟨⟨a1, a2⟩, a3⟩, a4⟩, a5⟩, a6⟩ := he
    cases d <;> simp [right, cE, a1, a2, a3, a4]
  unfold cstep
  split
  · split
    · intro a ha
      obtain ⟨b, hb, rfl⟩ := List.mem_map.1 ha
      obtain ⟨h1, h2⟩ := h b hb
      unfold upd1
      split
      · refine ⟨?_, h2⟩
        have h3 : 1 ≤ iOr b.rt e.rt ∧ iOr b.rt e.rt ≤ 15 := by
          simp only [right, Bool.and_eq_true, decide_eq_true_eq] at h1 he
          exact or_range (by omega) (by omega)
        simp only [right, Bool.and_eq_true, decide_eq_true_eq] at h1 ⊢
        show ((((-2 ≤ b.who ∧ b.who ≤ 999) ∧ 1 ≤ iOr b.rt e.rt) ∧ iOr b.rt e.rt ≤ 15) ∧ 1 ≤ b.rc) ∧ b.rc ≤ 3
        omega
      · exact ⟨h1, h2⟩
    · intro a ha
      rcases List.mem_append.1 ha with ha | ha
      · exact h a ha
      · simp at ha; subst ha; exact ⟨hce, rfl⟩
  · exact h
theorem fold_ok (d : Bool) : ∀ (l out : List Ace), (∀ a ∈ l, right a = true) → (∀ a ∈ out, right a = true ∧ a.rc = rcOf d) → ∀ a ∈ l.foldl (cstep d) out, right a = true ∧ a.rc = rcOf d
  | [], out, _, h => h
  | e :: r, out, hl, h => by rw [List.foldl_cons]; exact fold_ok d r _ (fun a ha => hl a (by simp [ha])) (step_ok h (hl e (by simp)))
theorem child_ok {l : List Ace} (h : VL l) (d : Bool) : ∀ a ∈ child l d, right a = true ∧ a.rc = rcOf d := fold_ok d l [] h.rt (by simp)
theorem child_VL {l : List Ace} (h : VL l) (d : Bool) : VL (child l d) where
  rt := fun a ha => (child_ok h d a ha).1
  un := child_uniq l d
  gl := by
    rw [List.pairwise_iff_getElem]
    intro i j hi hj _ _
    exact child_gv l d _ (List.getElem_mem hj)
  ln := by have := child_len l d; have := h.ln; omega
/-- What inherits, in the law's words. -/
theorem inh_rc {a : Ace} (h : right a = true) : inh a = decide (a.rc ≠ 1) := by
  simp only [right, Bool.and_eq_true, decide_eq_true_eq] at h
  unfold inh
  rw [Bool.eq_iff_iff]
  simp
  omega
end Go.Proofs.Ytgblfhobiibeaaa.Acl

/- What a merge keeps; plain Lean. No condition. -/
set_option linter.unusedVariables false
set_option linter.unusedSimpArgs false
namespace Go.Proofs.Ytgblfhobiibeaaa.Acl
open Go.Proofs.Ytgblfhobiibeaaa.Abs

theorem uniq_len : ∀ (l m : List Ace), Uniq l → (∀ a ∈ l, hasM m a = true) → l.length ≤ m.length
  | [], m, _, _ => by simp
  | a :: r, m, hu, h => by
    obtain ⟨b, hb, hbe⟩ := hasM_iff.1 (h a (by simp))
    obtain ⟨m1, m2, rfl⟩ := List.append_of_mem hb
    unfold Uniq at hu
    rw [List.pairwise_cons] at hu
    have := uniq_len r (m1 ++ m2) hu.2 fun c hc => by
      obtain ⟨d, hd, hde⟩ := hasM_iff.1 (h c (by simp [hc]))
      refine hasM_iff.2 ⟨d, ?_, hde⟩
      have hne : d ≠ b := by
        intro he
        subst he
        exact hu.1 c hc (hbe.symm.trans hde)
      simp at hd ⊢
      rcases hd with hd | hd | hd
      · exact .inl hd
      · exact absurd hd hne
      · exact .inr hd
    simp only [List.length_append, List.length_cons] at this ⊢
    omega
theorem at_not {l : List Ace} {e : Ace} (h : at' l e ≠ 0) : hasM l e = true := by
  cases hc : hasM l e with
  | true => rfl
  | false => exact absurd (at_none hc) h
theorem at_range {l : List Ace} (h : VL l) (e : Ace) : 0 ≤ at' l e ∧ at' l e ≤ 15 := by
  unfold at'
  cases hf : l.find? (fun a => marked a e) with
  | none => simp
  | some a =>
    have := h.rt1 (List.mem_of_find?_eq_some hf)
    show 0 ≤ a.rt ∧ a.rt ≤ 15
    omega
theorem newRt_mk {x : Tri} {a b : Ace} (h : mk a = mk b) : newRt x a = newRt x b := by unfold newRt; rw [at_marked h, at_marked h, at_marked h]
theorem keep_mk {x : Tri} {a b : Ace} (h : keepE x a = some b) : mk b = mk a ∧ b.rt = newRt x a ∧ newRt x a ≠ 0 := by
  unfold keepE at h
  split at h
  · cases h
  · rename_i hz
    injection h with h; subst h
    exact ⟨rfl, rfl, hz⟩
theorem allE_uniq (x : Tri) : Uniq (allE x) := ddup_uniq _
theorem fm_uniq (x : Tri) : ∀ l : List Ace, Uniq l → Uniq (l.filterMap (keepE x))
  | [], _ => by simp [Uniq]
  | a :: r, h => by
    unfold Uniq at h
    rw [List.pairwise_cons] at h
    have ih := fm_uniq x r h.2
    rw [List.filterMap_cons]
    cases hk : keepE x a with
    | none => exact ih
    | some b =>
      unfold Uniq at ih ⊢
      rw [List.pairwise_cons]
      refine ⟨fun c hc he => ?_, ih⟩
      obtain ⟨d, hd, hdk⟩ := List.mem_filterMap.1 hc
      exact h.1 d hd ((keep_mk hk).1.symm.trans (he.trans (keep_mk hdk).1))
theorem outE_uniq (x : Tri) : Uniq (outE x) := fm_uniq x _ (allE_uniq x)
theorem hasM_all (x : Tri) (e : Ace) : hasM (allE x) e = (hasM x.mine e || hasM x.theirs e || hasM x.base e) := by
  unfold allE; rw [hasM_ddup, hasM_append, hasM_append]
theorem none_all {x : Tri} {e : Ace} (h : hasM (allE x) e = false) : at' x.mine e = 0 ∧ at' x.theirs e = 0 ∧ at' x.base e = 0 := by
  rw [hasM_all, Bool.or_eq_false_iff, Bool.or_eq_false_iff] at h
  exact ⟨at_none h.1.1, at_none h.1.2, at_none h.2⟩
theorem at_outE (x : Tri) (e : Ace) : at' (outE x) e = newRt x e := by
  cases hm : hasM (allE x) e with
  | false =>
    obtain ⟨h1, h2, h3⟩ := none_all hm
    have hn : newRt x e = 0 := by unfold newRt; rw [h1, h2, h3]; rfl
    rw [hn]
    apply at_none
    unfold hasM
    rw [List.any_eq_false]
    intro a ha hc
    obtain ⟨b, hb, hbk⟩ := List.mem_filterMap.1 ha
    have h4 : mk a = mk e := by simpa [marked] using hc
    have : hasM (allE x) e = true := hasM_iff.2 ⟨b, hb, (keep_mk hbk).1.symm.trans h4⟩
    rw [hm] at this; cases this
  | true =>
    obtain ⟨b, hb, hbe⟩ := hasM_iff.1 hm
    by_cases hz : newRt x e = 0
    · rw [hz]
      apply at_none
      unfold hasM
      rw [List.any_eq_false]
      intro a ha hc
      obtain ⟨d, hd, hdk⟩ := List.mem_filterMap.1 ha
      have h4 : mk a = mk e := by simpa [marked] using hc
      obtain ⟨k1, _, k3⟩ := keep_mk hdk
      exact k3 ((newRt_mk (k1.symm.trans h4)).trans hz)
    · have hzb : newRt x b ≠ 0 := by rw [newRt_mk hbe]; exact hz
      have hmem : { b with rt := newRt x b } ∈ outE x := by
        refine List.mem_filterMap.2 ⟨b, hb, ?_⟩
        unfold keepE; rw [if_neg hzb]
      rw [at_mem (outE_uniq x) hmem (e := e) hbe, newRt_mk hbe]
theorem at_parted {l : List Ace} (h : Uniq l) (e : Ace) : at' (parted l) e = at' l e := by
  cases hm : hasM l e with
  | true =>
    obtain ⟨b, hb, hbe⟩ := hasM_iff.1 hm
    rw [at_mem h hb hbe, at_mem (parted_uniq h) (mem_parted.2 hb) hbe]
  | false =>
    rw [at_none hm, at_none]
    unfold hasM at hm ⊢
    rw [List.any_eq_false] at hm ⊢
    intro a ha
    exact hm a (mem_parted.1 ha)
theorem newRt_range {x : Tri} (hm : VL x.mine) (ht : VL x.theirs) (e : Ace) : 0 ≤ newRt x e ∧ newRt x e ≤ 15 := by
  unfold newRt; split
  · exact at_range ht e
  · exact at_range hm e
theorem new_has {x : Tri} {e : Ace} (h : newRt x e ≠ 0) : hasM (x.mine ++ x.theirs) e = true := by
  rw [hasM_append]
  unfold newRt at h
  split at h
  · rw [at_not h]; simp
  · rw [at_not h]; rfl
theorem outE_has {x : Tri} {a : Ace} (h : a ∈ outE x) : a.rt = newRt x a ∧ newRt x a ≠ 0 := by
  obtain ⟨b, hb, hk⟩ := List.mem_filterMap.1 h
  obtain ⟨k1, k2, k3⟩ := keep_mk hk
  rw [newRt_mk k1]; exact ⟨k2, k3⟩
theorem outE_right {x : Tri} (hb : VL x.base) (hm : VL x.mine) (ht : VL x.theirs) : ∀ a ∈ outE x, right a = true := by
  intro a ha
  obtain ⟨b, hbm, hk⟩ := List.mem_filterMap.1 ha
  have hrb : right b = true := by
    have := mem_ddup hbm
    rw [List.mem_append, List.mem_append] at this
    rcases this with (h | h) | h
    · exact hm.rt b h
    · exact ht.rt b h
    · exact hb.rt b h
  have hr := newRt_range hm ht b
  unfold keepE at hk
  split at hk
  · cases hk
  · rename_i hz
    injection hk with hk; subst hk
    simp only [right, Bool.and_eq_true, decide_eq_true_eq] at hrb ⊢
    show ((((-2 ≤ b.who ∧ b.who ≤ 999) ∧ 1 ≤ newRt x b) ∧ newRt x b ≤ 15) ∧ 1 ≤ b.rc) ∧ b.rc ≤ 3
    omega
theorem no_clash_all {x : Tri} {al : List Ace} (hal : ∀ e, hasM (allE x) e = hasM al e) (h : al.any (clash x) = false) (e : Ace) : clash x e = false := by
  cases hm : hasM (allE x) e with
  | false =>
    obtain ⟨h1, h2, h3⟩ := none_all hm
    unfold clash; rw [h1, h2, h3]; rfl
  | true =>
    rw [hal] at hm
    obtain ⟨b, hb, hbe⟩ := hasM_iff.1 hm
    rw [← clash_mk hbe]
    rw [List.any_eq_false] at h
    have := h b hb
    simpa using this
/-- What a merge of three lists gives. -/
structure MG (x : Tri) (al : List Ace) (p : List Ace × Bool) : Prop where
  ok : p.2 = !al.any (clash x)
  at1 : p.2 = true → ∀ e, at' p.1 e = newRt x e
  nil : p.2 = false → p.1 = []
  vl : VL p.1
theorem merge_MG {x : Tri} {al : List Ace} (hb : VL x.base) (hm : VL x.mine) (ht : VL x.theirs) (h16 : x.mine.length + x.theirs.length ≤ 16) (hal : ∀ e, hasM (allE x) e = hasM al e) : MG x al (merge x) := by
  have plain : ∀ (l : List Ace), VL l → (∀ e, clash x e = false) → (∀ e, at' l e = newRt x e) → MG x al (l, true) := by
    intro l hl hc ha
    refine ⟨?_, fun _ => ha, fun h => (by cases h), hl⟩
    have : al.any (clash x) = false := by rw [List.any_eq_false]; intro a _; rw [hc a]; simp
    rw [this]; rfl
  unfold merge
  split
  · rename_i he
    refine plain _ ht (fun e => ?_) (fun e => ?_)
    · unfold clash; rw [he]; simp
    · unfold newRt; rw [he]; simp
  · split
    · rename_i he
      refine plain _ hm (fun e => ?_) (fun e => ?_)
      · unfold clash
        rcases he with he | he <;> rw [he] <;> simp
      · unfold newRt
        rcases he with he | he
        · rw [he]; split
          · assumption
          · rfl
        · rw [he]; split <;> rfl
    · have hout : (outE x).length ≤ 16 := by
        have := uniq_len (outE x) (x.mine ++ x.theirs) (outE_uniq x) fun a ha => new_has (outE_has ha).2
        rw [List.length_append] at this; omega
      have hany : (allE x).any (clash x) = al.any (clash x) := by
        rw [Bool.eq_iff_iff, List.any_eq_true, List.any_eq_true]
        constructor
        · rintro ⟨a, ha, hc⟩
          have h1 : hasM (allE x) a = true := hasM_iff.2 ⟨a, ha, rfl⟩
          rw [hal] at h1
          obtain ⟨b, hbm, hbe⟩ := hasM_iff.1 h1
          exact ⟨b, hbm, by rw [clash_mk hbe]; exact hc⟩
        · rintro ⟨a, ha, hc⟩
          have h1 : hasM al a = true := hasM_iff.2 ⟨a, ha, rfl⟩
          rw [← hal] at h1
          obtain ⟨b, hbm, hbe⟩ := hasM_iff.1 h1
          exact ⟨b, hbm, by rw [clash_mk hbe]; exact hc⟩
      unfold mergeG
      rw [hany]
      cases hc : al.any (clash x) with
      | true =>
        rw [if_pos rfl]
        exact ⟨by rw [hc]; rfl, fun h => (by cases h), fun _ => rfl, ⟨by simp, by simp [Uniq], by simp, by simp⟩⟩
      | false =>
        rw [if_neg (by simp), if_neg (by omega)]
        refine ⟨by rw [hc]; rfl, fun _ e => ?_, fun h => (by cases h), ?_⟩
        · show at' (parted (outE x)) e = _
          rw [at_parted (outE_uniq x), at_outE]
        · exact ⟨fun a ha => outE_right hb hm ht a (mem_parted.1 ha), parted_uniq (outE_uniq x), parted_gl _, by show (parted (outE x)).length ≤ 16; rw [parted_len]; exact hout⟩
def swp (x : Tri) : Tri := ⟨x.base, x.theirs, x.mine⟩
theorem swp_clash (x : Tri) (e : Ace) : clash (swp x) e = clash x e := by
  unfold clash swp
  rw [Bool.eq_iff_iff]
  simp only [Bool.and_eq_true, decide_eq_true_eq]
  constructor
  · rintro ⟨⟨h1, h2⟩, h3⟩; exact ⟨⟨h2, h1⟩, fun h => h3 h.symm⟩
  · rintro ⟨⟨h1, h2⟩, h3⟩; exact ⟨⟨h2, h1⟩, fun h => h3 h.symm⟩
theorem swp_new {x : Tri} {e : Ace} (h : clash x e = false) : newRt (swp x) e = newRt x e := by
  unfold clash at h
  unfold newRt swp
  simp only
  by_cases h1 : at' x.mine e = at' x.base e
  · rw [if_pos h1]
    by_cases h2 : at' x.theirs e = at' x.base e
    · rw [if_pos h2, h1, h2]
    · rw [if_neg h2]
  · rw [if_neg h1]
    by_cases h2 : at' x.theirs e = at' x.base e
    · rw [if_pos h2]
    · rw [if_neg h2]
      by_cases h3 : at' x.mine e = at' x.theirs e
      · exact h3.symm
      · simp [h1, h2, h3] at h
theorem swp_has (x : Tri) (e : Ace) : hasM (allE (swp x)) e = hasM (allE x) e := by
  rw [hasM_all, hasM_all]
  show (hasM x.theirs e || hasM x.mine e || hasM x.base e) = _
  rw [Bool.or_comm (hasM x.theirs e)]
theorem MG_swap {x : Tri} {al : List Ace} {q : List Ace × Bool} (hal : ∀ e, hasM (allE x) e = hasM al e) (h : MG (swp x) al q) : MG x al q := by
  have hc : al.any (clash (swp x)) = al.any (clash x) := by rw [show clash (swp x) = clash x from funext (swp_clash x)]
  have hok := h.ok
  rw [hc] at hok
  refine ⟨hok, fun h2 e => ?_, h.nil, h.vl⟩
  rw [h.at1 h2 e]
  exact swp_new (no_clash_all hal (by rw [h2] at hok; simpa using hok.symm) e)
theorem MG_len {x : Tri} {al : List Ace} {p q : List Ace × Bool} (hp : MG x al p) (hq : MG x al q) : p.1.length = q.1.length := by
  have he : p.2 = q.2 := hp.ok.trans hq.ok.symm
  cases hc : p.2 with
  | false => rw [hp.nil hc, hq.nil (he ▸ hc)]
  | true =>
    have go : ∀ (p q : List Ace × Bool), MG x al p → MG x al q → p.2 = true → q.2 = true → p.1.length ≤ q.1.length := by
      intro p q hp hq h1 h2
      refine uniq_len _ _ hp.vl.un fun a ha => at_not (e := a) ?_
      rw [hq.at1 h2 a, ← hp.at1 h1 a, at_mem hp.vl.un ha rfl]
      have := (hp.vl.rt1 ha).1
      omega
    exact Nat.le_antisymm (go p q hp hq hc (he ▸ hc)) (go q p hq hp (he ▸ hc) hc)
theorem MG_in {x : Tri} {al : List Ace} {p : List Ace × Bool} (hp : MG x al p) (hal : ∀ e, hasM (allE x) e = hasM al e) (hr : ∀ a ∈ al, 1 ≤ a.rt) {a : Ace} (ha : a ∈ p.1) : at' al a ≠ 0 := by
  cases hc : p.2 with
  | false => rw [hp.nil hc] at ha; cases ha
  | true =>
    have h1 : newRt x a ≠ 0 := by
      rw [← hp.at1 hc a, at_mem hp.vl.un ha rfl]
      have := (hp.vl.rt1 ha).1
      omega
    have h2 := new_has h1
    have h3 : hasM al a = true := by
      rw [← hal, hasM_all]
      rw [hasM_append] at h2; rw [h2]; rfl
    intro h0
    rw [(at_zero hr a).1 h0] at h3; cases h3
theorem merge_back (b m : List Ace) : merge ⟨b, m, b⟩ = (m, true) := by
  unfold merge
  by_cases h : m = b
  · subst h; rw [if_pos rfl]
  · rw [if_neg h, if_pos (.inl rfl)]
end Go.Proofs.Ytgblfhobiibeaaa.Acl

/- What the arguments of the laws on lists of rights look like. No condition. -/
set_option linter.unusedVariables false
namespace Go.Proofs.Ytgblfhobiibeaaa.Acl
open Go.Proofs.Ytgblfhobiibeaaa.Abs Go.RowKit

theorem fitB3c {t e : TypeId} {ts : List T} (f : Fits Try.prog t ts) (ht : Try.prog.underlying t = some (.slice e)) (hb : flatB Try.prog e .u8 3 = true) (hc : Try.prog.cellsOf e = 3) :
    ∃ l : List (Int × Int × Int), ts = [.slice 3 (l.map encB)] ∧ ∀ y ∈ l, (0 ≤ y.1 ∧ y.1 ≤ 255) ∧ (0 ≤ y.2.1 ∧ y.2.1 ≤ 255) ∧ (0 ≤ y.2.2 ∧ y.2.2 ≤ 255) := by
  obtain ⟨xs, rfl, hl, h1, h2⟩ := f.sliceD ht
  rw [hc]
  have each : ∀ y ∈ xs, ∃ m : {m : Int × Int × Int // (0 ≤ m.1 ∧ m.1 ≤ 255) ∧ (0 ≤ m.2.1 ∧ m.2.1 ≤ 255) ∧ (0 ≤ m.2.2 ∧ m.2.2 ≤ 255)}, y = encB m.1 := by
    intro y hy
    obtain ⟨ns, g1, rfl, g3⟩ := flatV (h1 y hy) (h2 y hy) hb
    obtain ⟨p, q, r, rfl⟩ := list_three g1
    have b1 := g3 p (by simp); have b2 := g3 q (by simp); have b3 := g3 r (by simp)
    exact ⟨⟨(p, q, r), b1, b2, b3⟩, rfl⟩
  obtain ⟨m, rfl⟩ := list_map (f := fun m : {m : Int × Int × Int // (0 ≤ m.1 ∧ m.1 ≤ 255) ∧ (0 ≤ m.2.1 ∧ m.2.1 ≤ 255) ∧ (0 ≤ m.2.2 ∧ m.2.2 ≤ 255)} => encB m.1) each
  refine ⟨m.map (·.1), by simp [Function.comp_def], fun y hy => ?_⟩
  obtain ⟨q, _, rfl⟩ := List.mem_map.1 hy
  exact q.2
theorem not_agg {t e : TypeId} {x : T} (a : (∃ l, x = .agg l) ↔ (partsOf Try.prog t).isSome = true) (ht : Try.prog.underlying t = some (.slice e)) : ¬ ∃ l, x = .agg l := by
  intro h
  have := a.1 h
  unfold partsOf at this; rw [ht] at this; cases this
theorem fitB3 {t e : TypeId} {x : T} (f : Fits Try.prog t x.cells) (a : (∃ l, x = .agg l) ↔ (partsOf Try.prog t).isSome = true) (ht : Try.prog.underlying t = some (.slice e)) (hb : flatB Try.prog e .u8 3 = true) (hc : Try.prog.cellsOf e = 3) :
    ∃ l : List (Int × Int × Int), x = .slice 3 (l.map encB) ∧ ∀ y ∈ l, (0 ≤ y.1 ∧ y.1 ≤ 255) ∧ (0 ≤ y.2.1 ∧ y.2.1 ≤ 255) ∧ (0 ≤ y.2.2 ∧ y.2.2 ≤ 255) := by
  obtain ⟨l, h1, h2⟩ := fitB3c f ht hb hc
  exact ⟨l, cell_single h1 (not_agg a ht), h2⟩
theorem list_five {α : Type} {l : List α} (h : l.length = 5) : ∃ a b c d e, l = [a, b, c, d, e] := by
  match l, h with | [a, b, c, d, e], _ => exact ⟨a, b, c, d, e, rfl⟩
theorem one_eq {x y : T} (h : [x] = [y]) : x = y := by injection h
/-- An entry. -/
theorem fitA {t ti tb : TypeId} {x : T} (f : Fits Try.prog t x.cells) (a : (∃ l, x = .agg l) ↔ (partsOf Try.prog t).isSome = true) (hp : partsOf Try.prog t = some [(0, ti), (1, tb), (2, ti), (3, ti), (4, tb)])
    (hc : Try.prog.cellsOf t = 5) (hi : Try.prog.underlying ti = some (.int .i64)) (hb : Try.prog.underlying tb = some .bool) (ci : Try.prog.cellsOf ti = 1) (cb : Try.prog.cellsOf tb = 1) : ∃ e : Ace, x = encA e := by
  obtain ⟨ts, rfl⟩ := a.2 (by rw [hp]; rfl)
  obtain ⟨hl, h⟩ := Fits.aggD (ts := ts) f hp
  obtain ⟨x0, x1, x2, x3, x4, rfl⟩ := list_five (hl.trans hc)
  have f0 := h (0, ti) (by simp); have f1 := h (1, tb) (by simp); have f2 := h (2, ti) (by simp); have f3 := h (3, ti) (by simp); have f4 := h (4, tb) (by simp)
  simp only [ci, cb, List.drop, List.take] at f0 f1 f2 f3 f4
  obtain ⟨n0, e0, _⟩ := f0.intD hi
  obtain ⟨n1, e1⟩ := f1.boolD hb
  obtain ⟨n2, e2, _⟩ := f2.intD hi
  obtain ⟨n3, e3, _⟩ := f3.intD hi
  obtain ⟨n4, e4⟩ := f4.boolD hb
  exact ⟨⟨n0, n1, n2, n3, n4⟩, by rw [one_eq e0, one_eq e1, one_eq e2, one_eq e3, one_eq e4]; rfl⟩
theorem fitAs {t te ti tb : TypeId} {x : T} (f : Fits Try.prog t x.cells) (a : (∃ l, x = .agg l) ↔ (partsOf Try.prog t).isSome = true) (ht : Try.prog.underlying t = some (.slice te)) (hp : partsOf Try.prog te = some [(0, ti), (1, tb), (2, ti), (3, ti), (4, tb)])
    (hc : Try.prog.cellsOf te = 5) (hi : Try.prog.underlying ti = some (.int .i64)) (hb : Try.prog.underlying tb = some .bool) (ci : Try.prog.cellsOf ti = 1) (cb : Try.prog.cellsOf tb = 1) : ∃ l : List Ace, x = .slice 5 (l.map encA) := by
  obtain ⟨xs, rfl, _, h1, h2⟩ := sliceV f a ht
  rw [hc]
  obtain ⟨m, rfl⟩ := list_map (f := encA) (l := xs) fun y hy => fitA (h1 y hy) (h2 y hy) hp hc hi hb ci cb
  exact ⟨m, rfl⟩
/-- Three slices of arrays of three bytes. -/
theorem fit24 {t ts e : TypeId} {x : T} (f : Fits Try.prog t x.cells) (a : (∃ l, x = .agg l) ↔ (partsOf Try.prog t).isSome = true) (hp : partsOf Try.prog t = some [(0, ts), (1, ts), (2, ts)]) (hc : Try.prog.cellsOf t = 3) (cs : Try.prog.cellsOf ts = 1)
    (ht : Try.prog.underlying ts = some (.slice e)) (hb : flatB Try.prog e .u8 3 = true) (he : Try.prog.cellsOf e = 3) :
    ∃ m1 m2 m3 : List (Int × Int × Int), x = .agg [.slice 3 (m1.map encB), .slice 3 (m2.map encB), .slice 3 (m3.map encB)] ∧ (∀ y ∈ m1, (0 ≤ y.1 ∧ y.1 ≤ 255) ∧ (0 ≤ y.2.1 ∧ y.2.1 ≤ 255) ∧ (0 ≤ y.2.2 ∧ y.2.2 ≤ 255)) ∧
      (∀ y ∈ m2, (0 ≤ y.1 ∧ y.1 ≤ 255) ∧ (0 ≤ y.2.1 ∧ y.2.1 ≤ 255) ∧ (0 ≤ y.2.2 ∧ y.2.2 ≤ 255)) ∧ (∀ y ∈ m3, (0 ≤ y.1 ∧ y.1 ≤ 255) ∧ (0 ≤ y.2.1 ∧ y.2.1 ≤ 255) ∧ (0 ≤ y.2.2 ∧ y.2.2 ≤ 255)) := by
  obtain ⟨l, rfl⟩ := a.2 (by rw [hp]; rfl)
  obtain ⟨hl, h⟩ := Fits.aggD (ts := l) f hp
  obtain ⟨x0, x1, x2, rfl⟩ := list_three (hl.trans hc)
  have f0 := h (0, ts) (by simp); have f1 := h (1, ts) (by simp); have f2 := h (2, ts) (by simp)
  simp only [cs, List.drop, List.take] at f0 f1 f2
  obtain ⟨m1, e1, b1⟩ := fitB3c f0 ht hb he
  obtain ⟨m2, e2, b2⟩ := fitB3c f1 ht hb he
  obtain ⟨m3, e3, b3⟩ := fitB3c f2 ht hb he
  exact ⟨m1, m2, m3, by rw [one_eq e1, one_eq e2, one_eq e3], b1, b2, b3⟩
end Go.Proofs.Ytgblfhobiibeaaa.Acl

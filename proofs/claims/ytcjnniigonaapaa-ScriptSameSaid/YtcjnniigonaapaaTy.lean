/-
  THE PROGRAM'S TYPES AND FUNCTIONS, as the walks want them.
-/
import Derived.Test.YtcjnniigonaapaaF9
import Derived.Test.YtcjnniigonaapaaProg
namespace Go.Proofs.Ytcjnniigonaapaa
open Go Go.Az Go.Proofs
set_option maxRecDepth 100000
theorem sz2 : Sz Try.prog 2 1 := (by kernel_rfl : (Try.prog.info? 2).map (·.size) = some 1)
theorem by2 : By Try.prog 2 8 := (by kernel_rfl : (Try.prog.info? 2).map (·.bytes) = some 8)
theorem zr2 : Zr Try.prog 2 (.int .i64 0) := (by kernel_rfl : (Try.prog.info? 2).map (·.zero) = some (some (.int .i64 0)))
theorem sz3 : Sz Try.prog 3 1 := (by kernel_rfl : (Try.prog.info? 3).map (·.size) = some 1)
theorem by3 : By Try.prog 3 8 := (by kernel_rfl : (Try.prog.info? 3).map (·.bytes) = some 8)
theorem zr3 : Zr Try.prog 3 (.int .i64 0) := (by kernel_rfl : (Try.prog.info? 3).map (·.zero) = some (some (.int .i64 0)))
theorem sz4 : Sz Try.prog 4 1 := (by kernel_rfl : (Try.prog.info? 4).map (·.size) = some 1)
theorem by4 : By Try.prog 4 1 := (by kernel_rfl : (Try.prog.info? 4).map (·.bytes) = some 1)
theorem zr4 : Zr Try.prog 4 (.bool false) := (by kernel_rfl : (Try.prog.info? 4).map (·.zero) = some (some (.bool false)))
theorem sz5 : Sz Try.prog 5 1 := (by kernel_rfl : (Try.prog.info? 5).map (·.size) = some 1)
theorem by5 : By Try.prog 5 1 := (by kernel_rfl : (Try.prog.info? 5).map (·.bytes) = some 1)
theorem zr5 : Zr Try.prog 5 (.int .u8 0) := (by kernel_rfl : (Try.prog.info? 5).map (·.zero) = some (some (.int .u8 0)))
theorem sz6 : Sz Try.prog 6 1 := (by kernel_rfl : (Try.prog.info? 6).map (·.size) = some 1)
theorem by6 : By Try.prog 6 1 := (by kernel_rfl : (Try.prog.info? 6).map (·.bytes) = some 1)
theorem zr6 : Zr Try.prog 6 (.int .u8 0) := (by kernel_rfl : (Try.prog.info? 6).map (·.zero) = some (some (.int .u8 0)))
theorem sz7 : Sz Try.prog 7 4 := (by kernel_rfl : (Try.prog.info? 7).map (·.size) = some 4)
theorem by7 : By Try.prog 7 24 := (by kernel_rfl : (Try.prog.info? 7).map (·.bytes) = some 24)
theorem zr7 : Zr Try.prog 7 (.agg #[.int .i64 0, .int .i64 0, .bool false, .int .u8 0]) := (by kernel_rfl : (Try.prog.info? 7).map (·.zero) = some (some (.agg #[.int .i64 0, .int .i64 0, .bool false, .int .u8 0])))
theorem fb7_0 : fieldB Try.prog 7 0 = some (0, 2, 1) := by kernel_rfl
theorem fb7_1 : fieldB Try.prog 7 1 = some (1, 3, 1) := by kernel_rfl
theorem fb7_2 : fieldB Try.prog 7 2 = some (2, 4, 1) := by kernel_rfl
theorem fb7_3 : fieldB Try.prog 7 3 = some (3, 6, 1) := by kernel_rfl
theorem pl7 : Pl Try.prog 7 [(0, 1), (1, 1), (2, 1), (3, 1)] := ⟨_, Try.underlying7, fun _ => by kernel_rfl⟩
theorem sz8 : Sz Try.prog 8 4 := (by kernel_rfl : (Try.prog.info? 8).map (·.size) = some 4)
theorem by8 : By Try.prog 8 24 := (by kernel_rfl : (Try.prog.info? 8).map (·.bytes) = some 24)
theorem zr8 : Zr Try.prog 8 (.agg #[.int .i64 0, .int .i64 0, .bool false, .int .u8 0]) := (by kernel_rfl : (Try.prog.info? 8).map (·.zero) = some (some (.agg #[.int .i64 0, .int .i64 0, .bool false, .int .u8 0])))
theorem fb8_0 : fieldB Try.prog 8 0 = some (0, 2, 1) := by kernel_rfl
theorem fb8_1 : fieldB Try.prog 8 1 = some (1, 3, 1) := by kernel_rfl
theorem fb8_2 : fieldB Try.prog 8 2 = some (2, 4, 1) := by kernel_rfl
theorem fb8_3 : fieldB Try.prog 8 3 = some (3, 6, 1) := by kernel_rfl
theorem pl8 : Pl Try.prog 8 [(0, 1), (1, 1), (2, 1), (3, 1)] := ⟨_, Try.underlying8, fun _ => by kernel_rfl⟩
theorem sz9 : Sz Try.prog 9 1 := (by kernel_rfl : (Try.prog.info? 9).map (·.size) = some 1)
theorem by9 : By Try.prog 9 16 := (by kernel_rfl : (Try.prog.info? 9).map (·.bytes) = some 16)
theorem zr9 : Zr Try.prog 9 (.string .empty) := (by kernel_rfl : (Try.prog.info? 9).map (·.zero) = some (some (.string .empty)))
theorem sz10 : Sz Try.prog 10 1 := (by kernel_rfl : (Try.prog.info? 10).map (·.size) = some 1)
theorem by10 : By Try.prog 10 16 := (by kernel_rfl : (Try.prog.info? 10).map (·.bytes) = some 16)
theorem zr10 : Zr Try.prog 10 (.string .empty) := (by kernel_rfl : (Try.prog.info? 10).map (·.zero) = some (some (.string .empty)))
theorem sz11 : Sz Try.prog 11 1 := (by kernel_rfl : (Try.prog.info? 11).map (·.size) = some 1)
theorem by11 : By Try.prog 11 16 := (by kernel_rfl : (Try.prog.info? 11).map (·.bytes) = some 16)
theorem zr11 : Zr Try.prog 11 (.string .empty) := (by kernel_rfl : (Try.prog.info? 11).map (·.zero) = some (some (.string .empty)))
theorem sz12 : Sz Try.prog 12 1 := (by kernel_rfl : (Try.prog.info? 12).map (·.size) = some 1)
theorem by12 : By Try.prog 12 8 := (by kernel_rfl : (Try.prog.info? 12).map (·.bytes) = some 8)
theorem zr12 : Zr Try.prog 12 (.int .u64 0) := (by kernel_rfl : (Try.prog.info? 12).map (·.zero) = some (some (.int .u64 0)))
theorem sz13 : Sz Try.prog 13 2 := (by kernel_rfl : (Try.prog.info? 13).map (·.size) = some 2)
theorem by13 : By Try.prog 13 24 := (by kernel_rfl : (Try.prog.info? 13).map (·.bytes) = some 24)
theorem zr13 : Zr Try.prog 13 (.agg #[.string .empty, .int .u64 0]) := (by kernel_rfl : (Try.prog.info? 13).map (·.zero) = some (some (.agg #[.string .empty, .int .u64 0])))
theorem fb13_0 : fieldB Try.prog 13 0 = some (0, 9, 1) := by kernel_rfl
theorem fb13_1 : fieldB Try.prog 13 1 = some (1, 12, 1) := by kernel_rfl
theorem pl13 : Pl Try.prog 13 [(0, 1), (1, 1)] := ⟨_, Try.underlying13, fun _ => by kernel_rfl⟩
theorem sz14 : Sz Try.prog 14 2 := (by kernel_rfl : (Try.prog.info? 14).map (·.size) = some 2)
theorem by14 : By Try.prog 14 24 := (by kernel_rfl : (Try.prog.info? 14).map (·.bytes) = some 24)
theorem zr14 : Zr Try.prog 14 (.agg #[.string .empty, .int .u64 0]) := (by kernel_rfl : (Try.prog.info? 14).map (·.zero) = some (some (.agg #[.string .empty, .int .u64 0])))
theorem fb14_0 : fieldB Try.prog 14 0 = some (0, 9, 1) := by kernel_rfl
theorem fb14_1 : fieldB Try.prog 14 1 = some (1, 12, 1) := by kernel_rfl
theorem pl14 : Pl Try.prog 14 [(0, 1), (1, 1)] := ⟨_, Try.underlying14, fun _ => by kernel_rfl⟩
theorem sz15 : Sz Try.prog 15 1 := (by kernel_rfl : (Try.prog.info? 15).map (·.size) = some 1)
theorem by15 : By Try.prog 15 8 := (by kernel_rfl : (Try.prog.info? 15).map (·.bytes) = some 8)
theorem zr15 : Zr Try.prog 15 (.pointer none) := (by kernel_rfl : (Try.prog.info? 15).map (·.zero) = some (some (.pointer none)))
theorem sz16 : Sz Try.prog 16 1 := (by kernel_rfl : (Try.prog.info? 16).map (·.size) = some 1)
theorem by16 : By Try.prog 16 8 := (by kernel_rfl : (Try.prog.info? 16).map (·.bytes) = some 8)
theorem zr16 : Zr Try.prog 16 (.pointer none) := (by kernel_rfl : (Try.prog.info? 16).map (·.zero) = some (some (.pointer none)))
theorem sz17 : Sz Try.prog 17 1 := (by kernel_rfl : (Try.prog.info? 17).map (·.size) = some 1)
theorem by17 : By Try.prog 17 8 := (by kernel_rfl : (Try.prog.info? 17).map (·.bytes) = some 8)
theorem zr17 : Zr Try.prog 17 (.pointer none) := (by kernel_rfl : (Try.prog.info? 17).map (·.zero) = some (some (.pointer none)))
theorem sz18 : Sz Try.prog 18 1 := (by kernel_rfl : (Try.prog.info? 18).map (·.size) = some 1)
theorem by18 : By Try.prog 18 8 := (by kernel_rfl : (Try.prog.info? 18).map (·.bytes) = some 8)
theorem zr18 : Zr Try.prog 18 (.agg #[.pointer none]) := (by kernel_rfl : (Try.prog.info? 18).map (·.zero) = some (some (.agg #[.pointer none])))
theorem fb18_0 : fieldB Try.prog 18 0 = some (0, 17, 1) := by kernel_rfl
theorem pl18 : Pl Try.prog 18 [(0, 1)] := ⟨_, Try.underlying18, fun _ => by kernel_rfl⟩
theorem sz19 : Sz Try.prog 19 1 := (by kernel_rfl : (Try.prog.info? 19).map (·.size) = some 1)
theorem by19 : By Try.prog 19 8 := (by kernel_rfl : (Try.prog.info? 19).map (·.bytes) = some 8)
theorem zr19 : Zr Try.prog 19 (.agg #[.pointer none]) := (by kernel_rfl : (Try.prog.info? 19).map (·.zero) = some (some (.agg #[.pointer none])))
theorem fb19_0 : fieldB Try.prog 19 0 = some (0, 17, 1) := by kernel_rfl
theorem pl19 : Pl Try.prog 19 [(0, 1)] := ⟨_, Try.underlying19, fun _ => by kernel_rfl⟩
theorem sz21 : Sz Try.prog 21 1 := (by kernel_rfl : (Try.prog.info? 21).map (·.size) = some 1)
theorem by21 : By Try.prog 21 4 := (by kernel_rfl : (Try.prog.info? 21).map (·.bytes) = some 4)
theorem zr21 : Zr Try.prog 21 (.int .i32 0) := (by kernel_rfl : (Try.prog.info? 21).map (·.zero) = some (some (.int .i32 0)))
theorem sz22 : Sz Try.prog 22 1 := (by kernel_rfl : (Try.prog.info? 22).map (·.size) = some 1)
theorem by22 : By Try.prog 22 2 := (by kernel_rfl : (Try.prog.info? 22).map (·.bytes) = some 2)
theorem zr22 : Zr Try.prog 22 (.int .i16 0) := (by kernel_rfl : (Try.prog.info? 22).map (·.zero) = some (some (.int .i16 0)))
theorem sz23 : Sz Try.prog 23 4 := (by kernel_rfl : (Try.prog.info? 23).map (·.size) = some 4)
theorem by23 : By Try.prog 23 8 := (by kernel_rfl : (Try.prog.info? 23).map (·.bytes) = some 8)
theorem zr23 : Zr Try.prog 23 (.agg #[.int .i16 0, .int .i16 0, .int .i16 0, .int .i16 0]) := (by kernel_rfl : (Try.prog.info? 23).map (·.zero) = some (some (.agg #[.int .i16 0, .int .i16 0, .int .i16 0, .int .i16 0])))
theorem sz24 : Sz Try.prog 24 1 := (by kernel_rfl : (Try.prog.info? 24).map (·.size) = some 1)
theorem by24 : By Try.prog 24 24 := (by kernel_rfl : (Try.prog.info? 24).map (·.bytes) = some 24)
theorem zr24 : Zr Try.prog 24 (.slice none 0 0) := (by kernel_rfl : (Try.prog.info? 24).map (·.zero) = some (some (.slice none 0 0)))
theorem sz25 : Sz Try.prog 25 1 := (by kernel_rfl : (Try.prog.info? 25).map (·.size) = some 1)
theorem by25 : By Try.prog 25 24 := (by kernel_rfl : (Try.prog.info? 25).map (·.bytes) = some 24)
theorem zr25 : Zr Try.prog 25 (.slice none 0 0) := (by kernel_rfl : (Try.prog.info? 25).map (·.zero) = some (some (.slice none 0 0)))
theorem sz26 : Sz Try.prog 26 1 := (by kernel_rfl : (Try.prog.info? 26).map (·.size) = some 1)
theorem by26 : By Try.prog 26 24 := (by kernel_rfl : (Try.prog.info? 26).map (·.bytes) = some 24)
theorem zr26 : Zr Try.prog 26 (.slice none 0 0) := (by kernel_rfl : (Try.prog.info? 26).map (·.zero) = some (some (.slice none 0 0)))
theorem sz27 : Sz Try.prog 27 10 := (by kernel_rfl : (Try.prog.info? 27).map (·.size) = some 10)
theorem by27 : By Try.prog 27 112 := (by kernel_rfl : (Try.prog.info? 27).map (·.bytes) = some 112)
theorem zr27 : Zr Try.prog 27 (.agg #[.int .u8 0, .int .u8 0, .int .i16 0, .int .i16 0, .int .i16 0, .int .i16 0, .slice none 0 0, .slice none 0 0, .slice none 0 0, .slice none 0 0]) := (by kernel_rfl : (Try.prog.info? 27).map (·.zero) = some (some (.agg #[.int .u8 0, .int .u8 0, .int .i16 0, .int .i16 0, .int .i16 0, .int .i16 0, .slice none 0 0, .slice none 0 0, .slice none 0 0, .slice none 0 0])))
theorem fb27_0 : fieldB Try.prog 27 0 = some (0, 5, 1) := by kernel_rfl
theorem fb27_1 : fieldB Try.prog 27 1 = some (1, 5, 1) := by kernel_rfl
theorem fb27_2 : fieldB Try.prog 27 2 = some (2, 23, 4) := by kernel_rfl
theorem fb27_3 : fieldB Try.prog 27 3 = some (6, 24, 1) := by kernel_rfl
theorem fb27_4 : fieldB Try.prog 27 4 = some (7, 25, 1) := by kernel_rfl
theorem fb27_5 : fieldB Try.prog 27 5 = some (8, 25, 1) := by kernel_rfl
theorem fb27_6 : fieldB Try.prog 27 6 = some (9, 26, 1) := by kernel_rfl
theorem pl27 : Pl Try.prog 27 [(0, 1), (1, 1), (2, 4), (6, 1), (7, 1), (8, 1), (9, 1)] := ⟨_, Try.underlying27, fun _ => by kernel_rfl⟩
theorem sz28 : Sz Try.prog 28 10 := (by kernel_rfl : (Try.prog.info? 28).map (·.size) = some 10)
theorem by28 : By Try.prog 28 112 := (by kernel_rfl : (Try.prog.info? 28).map (·.bytes) = some 112)
theorem zr28 : Zr Try.prog 28 (.agg #[.int .u8 0, .int .u8 0, .int .i16 0, .int .i16 0, .int .i16 0, .int .i16 0, .slice none 0 0, .slice none 0 0, .slice none 0 0, .slice none 0 0]) := (by kernel_rfl : (Try.prog.info? 28).map (·.zero) = some (some (.agg #[.int .u8 0, .int .u8 0, .int .i16 0, .int .i16 0, .int .i16 0, .int .i16 0, .slice none 0 0, .slice none 0 0, .slice none 0 0, .slice none 0 0])))
theorem fb28_0 : fieldB Try.prog 28 0 = some (0, 5, 1) := by kernel_rfl
theorem fb28_1 : fieldB Try.prog 28 1 = some (1, 5, 1) := by kernel_rfl
theorem fb28_2 : fieldB Try.prog 28 2 = some (2, 23, 4) := by kernel_rfl
theorem fb28_3 : fieldB Try.prog 28 3 = some (6, 24, 1) := by kernel_rfl
theorem fb28_4 : fieldB Try.prog 28 4 = some (7, 25, 1) := by kernel_rfl
theorem fb28_5 : fieldB Try.prog 28 5 = some (8, 25, 1) := by kernel_rfl
theorem fb28_6 : fieldB Try.prog 28 6 = some (9, 26, 1) := by kernel_rfl
theorem pl28 : Pl Try.prog 28 [(0, 1), (1, 1), (2, 4), (6, 1), (7, 1), (8, 1), (9, 1)] := ⟨_, Try.underlying28, fun _ => by kernel_rfl⟩
theorem sz30 : Sz Try.prog 30 4 := (by kernel_rfl : (Try.prog.info? 30).map (·.size) = some 4)
theorem by30 : By Try.prog 30 32 := (by kernel_rfl : (Try.prog.info? 30).map (·.bytes) = some 32)
theorem zr30 : Zr Try.prog 30 (.agg #[.int .i64 0, .int .i64 0, .int .i64 0, .int .i64 0]) := (by kernel_rfl : (Try.prog.info? 30).map (·.zero) = some (some (.agg #[.int .i64 0, .int .i64 0, .int .i64 0, .int .i64 0])))
theorem sz31 : Sz Try.prog 31 4 := (by kernel_rfl : (Try.prog.info? 31).map (·.size) = some 4)
theorem by31 : By Try.prog 31 32 := (by kernel_rfl : (Try.prog.info? 31).map (·.bytes) = some 32)
theorem zr31 : Zr Try.prog 31 (.agg #[.int .i64 0, .int .i64 0, .int .i64 0, .int .i64 0]) := (by kernel_rfl : (Try.prog.info? 31).map (·.zero) = some (some (.agg #[.int .i64 0, .int .i64 0, .int .i64 0, .int .i64 0])))
theorem sz32 : Sz Try.prog 32 16 := (by kernel_rfl : (Try.prog.info? 32).map (·.size) = some 16)
theorem by32 : By Try.prog 32 128 := (by kernel_rfl : (Try.prog.info? 32).map (·.bytes) = some 128)
theorem zr32 : Zr Try.prog 32 (.agg #[.int .i64 0, .int .i64 0, .int .i64 0, .int .i64 0, .int .i64 0, .int .i64 0, .int .i64 0, .int .i64 0, .int .i64 0, .int .i64 0, .int .i64 0, .int .i64 0, .int .i64 0, .int .i64 0, .int .i64 0, .int .i64 0]) := (by kernel_rfl : (Try.prog.info? 32).map (·.zero) = some (some (.agg #[.int .i64 0, .int .i64 0, .int .i64 0, .int .i64 0, .int .i64 0, .int .i64 0, .int .i64 0, .int .i64 0, .int .i64 0, .int .i64 0, .int .i64 0, .int .i64 0, .int .i64 0, .int .i64 0, .int .i64 0, .int .i64 0])))
theorem sz33 : Sz Try.prog 33 16 := (by kernel_rfl : (Try.prog.info? 33).map (·.size) = some 16)
theorem by33 : By Try.prog 33 128 := (by kernel_rfl : (Try.prog.info? 33).map (·.bytes) = some 128)
theorem zr33 : Zr Try.prog 33 (.agg #[.int .i64 0, .int .i64 0, .int .i64 0, .int .i64 0, .int .i64 0, .int .i64 0, .int .i64 0, .int .i64 0, .int .i64 0, .int .i64 0, .int .i64 0, .int .i64 0, .int .i64 0, .int .i64 0, .int .i64 0, .int .i64 0]) := (by kernel_rfl : (Try.prog.info? 33).map (·.zero) = some (some (.agg #[.int .i64 0, .int .i64 0, .int .i64 0, .int .i64 0, .int .i64 0, .int .i64 0, .int .i64 0, .int .i64 0, .int .i64 0, .int .i64 0, .int .i64 0, .int .i64 0, .int .i64 0, .int .i64 0, .int .i64 0, .int .i64 0])))
theorem sz34 : Sz Try.prog 34 1 := (by kernel_rfl : (Try.prog.info? 34).map (·.size) = some 1)
theorem by34 : By Try.prog 34 24 := (by kernel_rfl : (Try.prog.info? 34).map (·.bytes) = some 24)
theorem zr34 : Zr Try.prog 34 (.slice none 0 0) := (by kernel_rfl : (Try.prog.info? 34).map (·.zero) = some (some (.slice none 0 0)))
theorem sz35 : Sz Try.prog 35 1 := (by kernel_rfl : (Try.prog.info? 35).map (·.size) = some 1)
theorem by35 : By Try.prog 35 24 := (by kernel_rfl : (Try.prog.info? 35).map (·.bytes) = some 24)
theorem zr35 : Zr Try.prog 35 (.slice none 0 0) := (by kernel_rfl : (Try.prog.info? 35).map (·.zero) = some (some (.slice none 0 0)))
theorem sz36 : Sz Try.prog 36 1 := (by kernel_rfl : (Try.prog.info? 36).map (·.size) = some 1)
theorem by36 : By Try.prog 36 24 := (by kernel_rfl : (Try.prog.info? 36).map (·.bytes) = some 24)
theorem zr36 : Zr Try.prog 36 (.slice none 0 0) := (by kernel_rfl : (Try.prog.info? 36).map (·.zero) = some (some (.slice none 0 0)))
theorem sz37 : Sz Try.prog 37 22 := (by kernel_rfl : (Try.prog.info? 37).map (·.size) = some 22)
theorem by37 : By Try.prog 37 240 := (by kernel_rfl : (Try.prog.info? 37).map (·.bytes) = some 240)
theorem zr37 : Zr Try.prog 37 (.agg #[.int .i64 0, .int .i64 0, .int .i64 0, .int .i64 0, .int .i64 0, .int .i64 0, .int .i64 0, .int .i64 0, .int .i64 0, .int .i64 0, .int .i64 0, .int .i64 0, .int .i64 0, .int .i64 0, .int .i64 0, .int .i64 0, .int .i64 0, .int .i64 0, .slice none 0 0, .slice none 0 0, .slice none 0 0, .slice none 0 0]) := (by kernel_rfl : (Try.prog.info? 37).map (·.zero) = some (some (.agg #[.int .i64 0, .int .i64 0, .int .i64 0, .int .i64 0, .int .i64 0, .int .i64 0, .int .i64 0, .int .i64 0, .int .i64 0, .int .i64 0, .int .i64 0, .int .i64 0, .int .i64 0, .int .i64 0, .int .i64 0, .int .i64 0, .int .i64 0, .int .i64 0, .slice none 0 0, .slice none 0 0, .slice none 0 0, .slice none 0 0])))
theorem fb37_0 : fieldB Try.prog 37 0 = some (0, 3, 1) := by kernel_rfl
theorem fb37_1 : fieldB Try.prog 37 1 = some (1, 3, 1) := by kernel_rfl
theorem fb37_2 : fieldB Try.prog 37 2 = some (2, 33, 16) := by kernel_rfl
theorem fb37_3 : fieldB Try.prog 37 3 = some (18, 34, 1) := by kernel_rfl
theorem fb37_4 : fieldB Try.prog 37 4 = some (19, 35, 1) := by kernel_rfl
theorem fb37_5 : fieldB Try.prog 37 5 = some (20, 35, 1) := by kernel_rfl
theorem fb37_6 : fieldB Try.prog 37 6 = some (21, 36, 1) := by kernel_rfl
theorem pl37 : Pl Try.prog 37 [(0, 1), (1, 1), (2, 16), (18, 1), (19, 1), (20, 1), (21, 1)] := ⟨_, Try.underlying37, fun _ => by kernel_rfl⟩
theorem sz38 : Sz Try.prog 38 22 := (by kernel_rfl : (Try.prog.info? 38).map (·.size) = some 22)
theorem by38 : By Try.prog 38 240 := (by kernel_rfl : (Try.prog.info? 38).map (·.bytes) = some 240)
theorem zr38 : Zr Try.prog 38 (.agg #[.int .i64 0, .int .i64 0, .int .i64 0, .int .i64 0, .int .i64 0, .int .i64 0, .int .i64 0, .int .i64 0, .int .i64 0, .int .i64 0, .int .i64 0, .int .i64 0, .int .i64 0, .int .i64 0, .int .i64 0, .int .i64 0, .int .i64 0, .int .i64 0, .slice none 0 0, .slice none 0 0, .slice none 0 0, .slice none 0 0]) := (by kernel_rfl : (Try.prog.info? 38).map (·.zero) = some (some (.agg #[.int .i64 0, .int .i64 0, .int .i64 0, .int .i64 0, .int .i64 0, .int .i64 0, .int .i64 0, .int .i64 0, .int .i64 0, .int .i64 0, .int .i64 0, .int .i64 0, .int .i64 0, .int .i64 0, .int .i64 0, .int .i64 0, .int .i64 0, .int .i64 0, .slice none 0 0, .slice none 0 0, .slice none 0 0, .slice none 0 0])))
theorem fb38_0 : fieldB Try.prog 38 0 = some (0, 3, 1) := by kernel_rfl
theorem fb38_1 : fieldB Try.prog 38 1 = some (1, 3, 1) := by kernel_rfl
theorem fb38_2 : fieldB Try.prog 38 2 = some (2, 33, 16) := by kernel_rfl
theorem fb38_3 : fieldB Try.prog 38 3 = some (18, 34, 1) := by kernel_rfl
theorem fb38_4 : fieldB Try.prog 38 4 = some (19, 35, 1) := by kernel_rfl
theorem fb38_5 : fieldB Try.prog 38 5 = some (20, 35, 1) := by kernel_rfl
theorem fb38_6 : fieldB Try.prog 38 6 = some (21, 36, 1) := by kernel_rfl
theorem pl38 : Pl Try.prog 38 [(0, 1), (1, 1), (2, 16), (18, 1), (19, 1), (20, 1), (21, 1)] := ⟨_, Try.underlying38, fun _ => by kernel_rfl⟩
theorem sz40 : Sz Try.prog 40 8 := (by kernel_rfl : (Try.prog.info? 40).map (·.size) = some 8)
theorem by40 : By Try.prog 40 64 := (by kernel_rfl : (Try.prog.info? 40).map (·.bytes) = some 64)
theorem zr40 : Zr Try.prog 40 (.agg #[.int .i64 0, .int .i64 0, .int .i64 0, .int .i64 0, .int .i64 0, .int .i64 0, .int .i64 0, .int .i64 0]) := (by kernel_rfl : (Try.prog.info? 40).map (·.zero) = some (some (.agg #[.int .i64 0, .int .i64 0, .int .i64 0, .int .i64 0, .int .i64 0, .int .i64 0, .int .i64 0, .int .i64 0])))
theorem fb40_0 : fieldB Try.prog 40 0 = some (0, 31, 4) := by kernel_rfl
theorem fb40_1 : fieldB Try.prog 40 1 = some (4, 31, 4) := by kernel_rfl
theorem pl40 : Pl Try.prog 40 [(0, 4), (4, 4)] := ⟨_, Try.underlying40, fun _ => by kernel_rfl⟩
theorem sz41 : Sz Try.prog 41 8 := (by kernel_rfl : (Try.prog.info? 41).map (·.size) = some 8)
theorem by41 : By Try.prog 41 64 := (by kernel_rfl : (Try.prog.info? 41).map (·.bytes) = some 64)
theorem zr41 : Zr Try.prog 41 (.agg #[.int .i64 0, .int .i64 0, .int .i64 0, .int .i64 0, .int .i64 0, .int .i64 0, .int .i64 0, .int .i64 0]) := (by kernel_rfl : (Try.prog.info? 41).map (·.zero) = some (some (.agg #[.int .i64 0, .int .i64 0, .int .i64 0, .int .i64 0, .int .i64 0, .int .i64 0, .int .i64 0, .int .i64 0])))
theorem fb41_0 : fieldB Try.prog 41 0 = some (0, 31, 4) := by kernel_rfl
theorem fb41_1 : fieldB Try.prog 41 1 = some (4, 31, 4) := by kernel_rfl
theorem pl41 : Pl Try.prog 41 [(0, 4), (4, 4)] := ⟨_, Try.underlying41, fun _ => by kernel_rfl⟩
theorem sz42 : Sz Try.prog 42 1 := (by kernel_rfl : (Try.prog.info? 42).map (·.size) = some 1)
theorem by42 : By Try.prog 42 1 := (by kernel_rfl : (Try.prog.info? 42).map (·.bytes) = some 1)
theorem zr42 : Zr Try.prog 42 (.int .u8 0) := (by kernel_rfl : (Try.prog.info? 42).map (·.zero) = some (some (.int .u8 0)))
theorem sz43 : Sz Try.prog 43 5 := (by kernel_rfl : (Try.prog.info? 43).map (·.size) = some 5)
theorem by43 : By Try.prog 43 6 := (by kernel_rfl : (Try.prog.info? 43).map (·.bytes) = some 6)
theorem zr43 : Zr Try.prog 43 (.agg #[.int .u8 0, .int .u8 0, .int .u8 0, .int .u8 0, .int .i16 0]) := (by kernel_rfl : (Try.prog.info? 43).map (·.zero) = some (some (.agg #[.int .u8 0, .int .u8 0, .int .u8 0, .int .u8 0, .int .i16 0])))
theorem fb43_0 : fieldB Try.prog 43 0 = some (0, 42, 1) := by kernel_rfl
theorem fb43_1 : fieldB Try.prog 43 1 = some (1, 5, 1) := by kernel_rfl
theorem fb43_2 : fieldB Try.prog 43 2 = some (2, 5, 1) := by kernel_rfl
theorem fb43_3 : fieldB Try.prog 43 3 = some (3, 5, 1) := by kernel_rfl
theorem fb43_4 : fieldB Try.prog 43 4 = some (4, 22, 1) := by kernel_rfl
theorem pl43 : Pl Try.prog 43 [(0, 1), (1, 1), (2, 1), (3, 1), (4, 1)] := ⟨_, Try.underlying43, fun _ => by kernel_rfl⟩
theorem sz44 : Sz Try.prog 44 5 := (by kernel_rfl : (Try.prog.info? 44).map (·.size) = some 5)
theorem by44 : By Try.prog 44 6 := (by kernel_rfl : (Try.prog.info? 44).map (·.bytes) = some 6)
theorem zr44 : Zr Try.prog 44 (.agg #[.int .u8 0, .int .u8 0, .int .u8 0, .int .u8 0, .int .i16 0]) := (by kernel_rfl : (Try.prog.info? 44).map (·.zero) = some (some (.agg #[.int .u8 0, .int .u8 0, .int .u8 0, .int .u8 0, .int .i16 0])))
theorem fb44_0 : fieldB Try.prog 44 0 = some (0, 42, 1) := by kernel_rfl
theorem fb44_1 : fieldB Try.prog 44 1 = some (1, 5, 1) := by kernel_rfl
theorem fb44_2 : fieldB Try.prog 44 2 = some (2, 5, 1) := by kernel_rfl
theorem fb44_3 : fieldB Try.prog 44 3 = some (3, 5, 1) := by kernel_rfl
theorem fb44_4 : fieldB Try.prog 44 4 = some (4, 22, 1) := by kernel_rfl
theorem pl44 : Pl Try.prog 44 [(0, 1), (1, 1), (2, 1), (3, 1), (4, 1)] := ⟨_, Try.underlying44, fun _ => by kernel_rfl⟩
theorem sz45 : Sz Try.prog 45 1 := (by kernel_rfl : (Try.prog.info? 45).map (·.size) = some 1)
theorem by45 : By Try.prog 45 24 := (by kernel_rfl : (Try.prog.info? 45).map (·.bytes) = some 24)
theorem zr45 : Zr Try.prog 45 (.slice none 0 0) := (by kernel_rfl : (Try.prog.info? 45).map (·.zero) = some (some (.slice none 0 0)))
theorem sz46 : Sz Try.prog 46 1 := (by kernel_rfl : (Try.prog.info? 46).map (·.size) = some 1)
theorem by46 : By Try.prog 46 24 := (by kernel_rfl : (Try.prog.info? 46).map (·.bytes) = some 24)
theorem zr46 : Zr Try.prog 46 (.slice none 0 0) := (by kernel_rfl : (Try.prog.info? 46).map (·.zero) = some (some (.slice none 0 0)))
theorem sz47 : Sz Try.prog 47 1 := (by kernel_rfl : (Try.prog.info? 47).map (·.size) = some 1)
theorem by47 : By Try.prog 47 1 := (by kernel_rfl : (Try.prog.info? 47).map (·.bytes) = some 1)
theorem zr47 : Zr Try.prog 47 (.int .u8 0) := (by kernel_rfl : (Try.prog.info? 47).map (·.zero) = some (some (.int .u8 0)))
theorem sz48 : Sz Try.prog 48 1 := (by kernel_rfl : (Try.prog.info? 48).map (·.size) = some 1)
theorem by48 : By Try.prog 48 1 := (by kernel_rfl : (Try.prog.info? 48).map (·.bytes) = some 1)
theorem zr48 : Zr Try.prog 48 (.int .u8 0) := (by kernel_rfl : (Try.prog.info? 48).map (·.zero) = some (some (.int .u8 0)))
theorem sz49 : Sz Try.prog 49 1 := (by kernel_rfl : (Try.prog.info? 49).map (·.size) = some 1)
theorem by49 : By Try.prog 49 1 := (by kernel_rfl : (Try.prog.info? 49).map (·.bytes) = some 1)
theorem zr49 : Zr Try.prog 49 (.int .u8 0) := (by kernel_rfl : (Try.prog.info? 49).map (·.zero) = some (some (.int .u8 0)))
theorem sz50 : Sz Try.prog 50 1 := (by kernel_rfl : (Try.prog.info? 50).map (·.size) = some 1)
theorem by50 : By Try.prog 50 1 := (by kernel_rfl : (Try.prog.info? 50).map (·.bytes) = some 1)
theorem zr50 : Zr Try.prog 50 (.int .u8 0) := (by kernel_rfl : (Try.prog.info? 50).map (·.zero) = some (some (.int .u8 0)))
theorem sz51 : Sz Try.prog 51 4 := (by kernel_rfl : (Try.prog.info? 51).map (·.size) = some 4)
theorem by51 : By Try.prog 51 32 := (by kernel_rfl : (Try.prog.info? 51).map (·.bytes) = some 32)
theorem zr51 : Zr Try.prog 51 (.agg #[.int .i64 0, .int .i64 0, .int .i64 0, .int .i64 0]) := (by kernel_rfl : (Try.prog.info? 51).map (·.zero) = some (some (.agg #[.int .i64 0, .int .i64 0, .int .i64 0, .int .i64 0])))
theorem fb51_0 : fieldB Try.prog 51 0 = some (0, 3, 1) := by kernel_rfl
theorem fb51_1 : fieldB Try.prog 51 1 = some (1, 3, 1) := by kernel_rfl
theorem fb51_2 : fieldB Try.prog 51 2 = some (2, 3, 1) := by kernel_rfl
theorem fb51_3 : fieldB Try.prog 51 3 = some (3, 3, 1) := by kernel_rfl
theorem pl51 : Pl Try.prog 51 [(0, 1), (1, 1), (2, 1), (3, 1)] := ⟨_, Try.underlying51, fun _ => by kernel_rfl⟩
theorem sz52 : Sz Try.prog 52 4 := (by kernel_rfl : (Try.prog.info? 52).map (·.size) = some 4)
theorem by52 : By Try.prog 52 32 := (by kernel_rfl : (Try.prog.info? 52).map (·.bytes) = some 32)
theorem zr52 : Zr Try.prog 52 (.agg #[.int .i64 0, .int .i64 0, .int .i64 0, .int .i64 0]) := (by kernel_rfl : (Try.prog.info? 52).map (·.zero) = some (some (.agg #[.int .i64 0, .int .i64 0, .int .i64 0, .int .i64 0])))
theorem fb52_0 : fieldB Try.prog 52 0 = some (0, 3, 1) := by kernel_rfl
theorem fb52_1 : fieldB Try.prog 52 1 = some (1, 3, 1) := by kernel_rfl
theorem fb52_2 : fieldB Try.prog 52 2 = some (2, 3, 1) := by kernel_rfl
theorem fb52_3 : fieldB Try.prog 52 3 = some (3, 3, 1) := by kernel_rfl
theorem pl52 : Pl Try.prog 52 [(0, 1), (1, 1), (2, 1), (3, 1)] := ⟨_, Try.underlying52, fun _ => by kernel_rfl⟩
theorem sz53 : Sz Try.prog 53 15 := (by kernel_rfl : (Try.prog.info? 53).map (·.size) = some 15)
theorem by53 : By Try.prog 53 48 := (by kernel_rfl : (Try.prog.info? 53).map (·.bytes) = some 48)
theorem zr53 : Zr Try.prog 53 (.agg #[.int .u8 0, .bool false, .int .u8 0, .int .u8 0, .int .u8 0, .int .u8 0, .int .u8 0, .int .u8 0, .int .u8 0, .int .u8 0, .int .u8 0, .int .i64 0, .int .i64 0, .int .i64 0, .int .i64 0]) := (by kernel_rfl : (Try.prog.info? 53).map (·.zero) = some (some (.agg #[.int .u8 0, .bool false, .int .u8 0, .int .u8 0, .int .u8 0, .int .u8 0, .int .u8 0, .int .u8 0, .int .u8 0, .int .u8 0, .int .u8 0, .int .i64 0, .int .i64 0, .int .i64 0, .int .i64 0])))
theorem fb53_0 : fieldB Try.prog 53 0 = some (0, 47, 1) := by kernel_rfl
theorem fb53_1 : fieldB Try.prog 53 1 = some (1, 4, 1) := by kernel_rfl
theorem fb53_2 : fieldB Try.prog 53 2 = some (2, 47, 1) := by kernel_rfl
theorem fb53_3 : fieldB Try.prog 53 3 = some (3, 5, 1) := by kernel_rfl
theorem fb53_4 : fieldB Try.prog 53 4 = some (4, 5, 1) := by kernel_rfl
theorem fb53_5 : fieldB Try.prog 53 5 = some (5, 48, 1) := by kernel_rfl
theorem fb53_6 : fieldB Try.prog 53 6 = some (6, 48, 1) := by kernel_rfl
theorem fb53_7 : fieldB Try.prog 53 7 = some (7, 48, 1) := by kernel_rfl
theorem fb53_8 : fieldB Try.prog 53 8 = some (8, 49, 1) := by kernel_rfl
theorem fb53_9 : fieldB Try.prog 53 9 = some (9, 5, 1) := by kernel_rfl
theorem fb53_10 : fieldB Try.prog 53 10 = some (10, 50, 1) := by kernel_rfl
theorem fb53_11 : fieldB Try.prog 53 11 = some (11, 52, 4) := by kernel_rfl
theorem pl53 : Pl Try.prog 53 [(0, 1), (1, 1), (2, 1), (3, 1), (4, 1), (5, 1), (6, 1), (7, 1), (8, 1), (9, 1), (10, 1), (11, 4)] := ⟨_, Try.underlying53, fun _ => by kernel_rfl⟩
theorem sz54 : Sz Try.prog 54 15 := (by kernel_rfl : (Try.prog.info? 54).map (·.size) = some 15)
theorem by54 : By Try.prog 54 48 := (by kernel_rfl : (Try.prog.info? 54).map (·.bytes) = some 48)
theorem zr54 : Zr Try.prog 54 (.agg #[.int .u8 0, .bool false, .int .u8 0, .int .u8 0, .int .u8 0, .int .u8 0, .int .u8 0, .int .u8 0, .int .u8 0, .int .u8 0, .int .u8 0, .int .i64 0, .int .i64 0, .int .i64 0, .int .i64 0]) := (by kernel_rfl : (Try.prog.info? 54).map (·.zero) = some (some (.agg #[.int .u8 0, .bool false, .int .u8 0, .int .u8 0, .int .u8 0, .int .u8 0, .int .u8 0, .int .u8 0, .int .u8 0, .int .u8 0, .int .u8 0, .int .i64 0, .int .i64 0, .int .i64 0, .int .i64 0])))
theorem fb54_0 : fieldB Try.prog 54 0 = some (0, 47, 1) := by kernel_rfl
theorem fb54_1 : fieldB Try.prog 54 1 = some (1, 4, 1) := by kernel_rfl
theorem fb54_2 : fieldB Try.prog 54 2 = some (2, 47, 1) := by kernel_rfl
theorem fb54_3 : fieldB Try.prog 54 3 = some (3, 5, 1) := by kernel_rfl
theorem fb54_4 : fieldB Try.prog 54 4 = some (4, 5, 1) := by kernel_rfl
theorem fb54_5 : fieldB Try.prog 54 5 = some (5, 48, 1) := by kernel_rfl
theorem fb54_6 : fieldB Try.prog 54 6 = some (6, 48, 1) := by kernel_rfl
theorem fb54_7 : fieldB Try.prog 54 7 = some (7, 48, 1) := by kernel_rfl
theorem fb54_8 : fieldB Try.prog 54 8 = some (8, 49, 1) := by kernel_rfl
theorem fb54_9 : fieldB Try.prog 54 9 = some (9, 5, 1) := by kernel_rfl
theorem fb54_10 : fieldB Try.prog 54 10 = some (10, 50, 1) := by kernel_rfl
theorem fb54_11 : fieldB Try.prog 54 11 = some (11, 52, 4) := by kernel_rfl
theorem pl54 : Pl Try.prog 54 [(0, 1), (1, 1), (2, 1), (3, 1), (4, 1), (5, 1), (6, 1), (7, 1), (8, 1), (9, 1), (10, 1), (11, 4)] := ⟨_, Try.underlying54, fun _ => by kernel_rfl⟩
theorem sz55 : Sz Try.prog 55 4 := (by kernel_rfl : (Try.prog.info? 55).map (·.size) = some 4)
theorem by55 : By Try.prog 55 4 := (by kernel_rfl : (Try.prog.info? 55).map (·.bytes) = some 4)
theorem zr55 : Zr Try.prog 55 (.agg #[.int .u8 0, .int .u8 0, .int .u8 0, .int .u8 0]) := (by kernel_rfl : (Try.prog.info? 55).map (·.zero) = some (some (.agg #[.int .u8 0, .int .u8 0, .int .u8 0, .int .u8 0])))
theorem sz56 : Sz Try.prog 56 7 := (by kernel_rfl : (Try.prog.info? 56).map (·.size) = some 7)
theorem by56 : By Try.prog 56 24 := (by kernel_rfl : (Try.prog.info? 56).map (·.bytes) = some 24)
theorem zr56 : Zr Try.prog 56 (.agg #[.int .u8 0, .int .u8 0, .int .u8 0, .int .u8 0, .int .i64 0, .int .u8 0, .int .u8 0]) := (by kernel_rfl : (Try.prog.info? 56).map (·.zero) = some (some (.agg #[.int .u8 0, .int .u8 0, .int .u8 0, .int .u8 0, .int .i64 0, .int .u8 0, .int .u8 0])))
theorem fb56_0 : fieldB Try.prog 56 0 = some (0, 55, 4) := by kernel_rfl
theorem fb56_1 : fieldB Try.prog 56 1 = some (4, 3, 1) := by kernel_rfl
theorem fb56_2 : fieldB Try.prog 56 2 = some (5, 5, 1) := by kernel_rfl
theorem fb56_3 : fieldB Try.prog 56 3 = some (6, 5, 1) := by kernel_rfl
theorem pl56 : Pl Try.prog 56 [(0, 4), (4, 1), (5, 1), (6, 1)] := ⟨_, Try.underlying56, fun _ => by kernel_rfl⟩
theorem sz57 : Sz Try.prog 57 7 := (by kernel_rfl : (Try.prog.info? 57).map (·.size) = some 7)
theorem by57 : By Try.prog 57 24 := (by kernel_rfl : (Try.prog.info? 57).map (·.bytes) = some 24)
theorem zr57 : Zr Try.prog 57 (.agg #[.int .u8 0, .int .u8 0, .int .u8 0, .int .u8 0, .int .i64 0, .int .u8 0, .int .u8 0]) := (by kernel_rfl : (Try.prog.info? 57).map (·.zero) = some (some (.agg #[.int .u8 0, .int .u8 0, .int .u8 0, .int .u8 0, .int .i64 0, .int .u8 0, .int .u8 0])))
theorem fb57_0 : fieldB Try.prog 57 0 = some (0, 55, 4) := by kernel_rfl
theorem fb57_1 : fieldB Try.prog 57 1 = some (4, 3, 1) := by kernel_rfl
theorem fb57_2 : fieldB Try.prog 57 2 = some (5, 5, 1) := by kernel_rfl
theorem fb57_3 : fieldB Try.prog 57 3 = some (6, 5, 1) := by kernel_rfl
theorem pl57 : Pl Try.prog 57 [(0, 4), (4, 1), (5, 1), (6, 1)] := ⟨_, Try.underlying57, fun _ => by kernel_rfl⟩
theorem sz58 : Sz Try.prog 58 1 := (by kernel_rfl : (Try.prog.info? 58).map (·.size) = some 1)
theorem by58 : By Try.prog 58 1 := (by kernel_rfl : (Try.prog.info? 58).map (·.bytes) = some 1)
theorem zr58 : Zr Try.prog 58 (.int .u8 0) := (by kernel_rfl : (Try.prog.info? 58).map (·.zero) = some (some (.int .u8 0)))
theorem sz59 : Sz Try.prog 59 1 := (by kernel_rfl : (Try.prog.info? 59).map (·.size) = some 1)
theorem by59 : By Try.prog 59 24 := (by kernel_rfl : (Try.prog.info? 59).map (·.bytes) = some 24)
theorem zr59 : Zr Try.prog 59 (.slice none 0 0) := (by kernel_rfl : (Try.prog.info? 59).map (·.zero) = some (some (.slice none 0 0)))
theorem sz60 : Sz Try.prog 60 27 := (by kernel_rfl : (Try.prog.info? 60).map (·.size) = some 27)
theorem by60 : By Try.prog 60 128 := (by kernel_rfl : (Try.prog.info? 60).map (·.bytes) = some 128)
theorem zr60 : Zr Try.prog 60 (.agg #[.int .u8 0, .bool false, .int .u8 0, .int .u8 0, .int .u8 0, .int .u8 0, .int .u8 0, .int .u8 0, .int .u8 0, .int .u8 0, .int .u8 0, .int .i64 0, .int .i64 0, .int .i64 0, .int .i64 0, .bool false, .int .u8 0, .int .u8 0, .int .u8 0, .int .u8 0, .int .i64 0, .int .u8 0, .int .u8 0, .int .i64 0, .int .i64 0, .int .u8 0, .slice none 0 0]) := (by kernel_rfl : (Try.prog.info? 60).map (·.zero) = some (some (.agg #[.int .u8 0, .bool false, .int .u8 0, .int .u8 0, .int .u8 0, .int .u8 0, .int .u8 0, .int .u8 0, .int .u8 0, .int .u8 0, .int .u8 0, .int .i64 0, .int .i64 0, .int .i64 0, .int .i64 0, .bool false, .int .u8 0, .int .u8 0, .int .u8 0, .int .u8 0, .int .i64 0, .int .u8 0, .int .u8 0, .int .i64 0, .int .i64 0, .int .u8 0, .slice none 0 0])))
theorem fb60_0 : fieldB Try.prog 60 0 = some (0, 54, 15) := by kernel_rfl
theorem fb60_1 : fieldB Try.prog 60 1 = some (15, 4, 1) := by kernel_rfl
theorem fb60_2 : fieldB Try.prog 60 2 = some (16, 57, 7) := by kernel_rfl
theorem fb60_3 : fieldB Try.prog 60 3 = some (23, 3, 1) := by kernel_rfl
theorem fb60_4 : fieldB Try.prog 60 4 = some (24, 3, 1) := by kernel_rfl
theorem fb60_5 : fieldB Try.prog 60 5 = some (25, 58, 1) := by kernel_rfl
theorem fb60_6 : fieldB Try.prog 60 6 = some (26, 59, 1) := by kernel_rfl
theorem pl60 : Pl Try.prog 60 [(0, 15), (15, 1), (16, 7), (23, 1), (24, 1), (25, 1), (26, 1)] := ⟨_, Try.underlying60, fun _ => by kernel_rfl⟩
theorem sz61 : Sz Try.prog 61 27 := (by kernel_rfl : (Try.prog.info? 61).map (·.size) = some 27)
theorem by61 : By Try.prog 61 128 := (by kernel_rfl : (Try.prog.info? 61).map (·.bytes) = some 128)
theorem zr61 : Zr Try.prog 61 (.agg #[.int .u8 0, .bool false, .int .u8 0, .int .u8 0, .int .u8 0, .int .u8 0, .int .u8 0, .int .u8 0, .int .u8 0, .int .u8 0, .int .u8 0, .int .i64 0, .int .i64 0, .int .i64 0, .int .i64 0, .bool false, .int .u8 0, .int .u8 0, .int .u8 0, .int .u8 0, .int .i64 0, .int .u8 0, .int .u8 0, .int .i64 0, .int .i64 0, .int .u8 0, .slice none 0 0]) := (by kernel_rfl : (Try.prog.info? 61).map (·.zero) = some (some (.agg #[.int .u8 0, .bool false, .int .u8 0, .int .u8 0, .int .u8 0, .int .u8 0, .int .u8 0, .int .u8 0, .int .u8 0, .int .u8 0, .int .u8 0, .int .i64 0, .int .i64 0, .int .i64 0, .int .i64 0, .bool false, .int .u8 0, .int .u8 0, .int .u8 0, .int .u8 0, .int .i64 0, .int .u8 0, .int .u8 0, .int .i64 0, .int .i64 0, .int .u8 0, .slice none 0 0])))
theorem fb61_0 : fieldB Try.prog 61 0 = some (0, 54, 15) := by kernel_rfl
theorem fb61_1 : fieldB Try.prog 61 1 = some (15, 4, 1) := by kernel_rfl
theorem fb61_2 : fieldB Try.prog 61 2 = some (16, 57, 7) := by kernel_rfl
theorem fb61_3 : fieldB Try.prog 61 3 = some (23, 3, 1) := by kernel_rfl
theorem fb61_4 : fieldB Try.prog 61 4 = some (24, 3, 1) := by kernel_rfl
theorem fb61_5 : fieldB Try.prog 61 5 = some (25, 58, 1) := by kernel_rfl
theorem fb61_6 : fieldB Try.prog 61 6 = some (26, 59, 1) := by kernel_rfl
theorem pl61 : Pl Try.prog 61 [(0, 15), (15, 1), (16, 7), (23, 1), (24, 1), (25, 1), (26, 1)] := ⟨_, Try.underlying61, fun _ => by kernel_rfl⟩
theorem sz63 : Sz Try.prog 63 1 := (by kernel_rfl : (Try.prog.info? 63).map (·.size) = some 1)
theorem by63 : By Try.prog 63 24 := (by kernel_rfl : (Try.prog.info? 63).map (·.bytes) = some 24)
theorem zr63 : Zr Try.prog 63 (.slice none 0 0) := (by kernel_rfl : (Try.prog.info? 63).map (·.zero) = some (some (.slice none 0 0)))
theorem sz66 : Sz Try.prog 66 1 := (by kernel_rfl : (Try.prog.info? 66).map (·.size) = some 1)
theorem by66 : By Try.prog 66 8 := (by kernel_rfl : (Try.prog.info? 66).map (·.bytes) = some 8)
theorem zr66 : Zr Try.prog 66 (.int .i64 0) := (by kernel_rfl : (Try.prog.info? 66).map (·.zero) = some (some (.int .i64 0)))
theorem sz71 : Sz Try.prog 71 1 := (by kernel_rfl : (Try.prog.info? 71).map (·.size) = some 1)
theorem by71 : By Try.prog 71 24 := (by kernel_rfl : (Try.prog.info? 71).map (·.bytes) = some 24)
theorem zr71 : Zr Try.prog 71 (.slice none 0 0) := (by kernel_rfl : (Try.prog.info? 71).map (·.zero) = some (some (.slice none 0 0)))
theorem sz72 : Sz Try.prog 72 16 := (by kernel_rfl : (Try.prog.info? 72).map (·.size) = some 16)
theorem by72 : By Try.prog 72 16 := (by kernel_rfl : (Try.prog.info? 72).map (·.bytes) = some 16)
theorem zr72 : Zr Try.prog 72 (.agg #[.int .u8 0, .int .u8 0, .int .u8 0, .int .u8 0, .int .u8 0, .int .u8 0, .int .u8 0, .int .u8 0, .int .u8 0, .int .u8 0, .bool false, .bool false, .int .u8 0, .int .u8 0, .int .u8 0, .int .u8 0]) := (by kernel_rfl : (Try.prog.info? 72).map (·.zero) = some (some (.agg #[.int .u8 0, .int .u8 0, .int .u8 0, .int .u8 0, .int .u8 0, .int .u8 0, .int .u8 0, .int .u8 0, .int .u8 0, .int .u8 0, .bool false, .bool false, .int .u8 0, .int .u8 0, .int .u8 0, .int .u8 0])))
theorem fb72_0 : fieldB Try.prog 72 0 = some (0, 5, 1) := by kernel_rfl
theorem fb72_1 : fieldB Try.prog 72 1 = some (1, 5, 1) := by kernel_rfl
theorem fb72_2 : fieldB Try.prog 72 2 = some (2, 5, 1) := by kernel_rfl
theorem fb72_3 : fieldB Try.prog 72 3 = some (3, 5, 1) := by kernel_rfl
theorem fb72_4 : fieldB Try.prog 72 4 = some (4, 5, 1) := by kernel_rfl
theorem fb72_5 : fieldB Try.prog 72 5 = some (5, 5, 1) := by kernel_rfl
theorem fb72_6 : fieldB Try.prog 72 6 = some (6, 5, 1) := by kernel_rfl
theorem fb72_7 : fieldB Try.prog 72 7 = some (7, 5, 1) := by kernel_rfl
theorem fb72_8 : fieldB Try.prog 72 8 = some (8, 5, 1) := by kernel_rfl
theorem fb72_9 : fieldB Try.prog 72 9 = some (9, 5, 1) := by kernel_rfl
theorem fb72_10 : fieldB Try.prog 72 10 = some (10, 4, 1) := by kernel_rfl
theorem fb72_11 : fieldB Try.prog 72 11 = some (11, 4, 1) := by kernel_rfl
theorem fb72_12 : fieldB Try.prog 72 12 = some (12, 55, 4) := by kernel_rfl
theorem pl72 : Pl Try.prog 72 [(0, 1), (1, 1), (2, 1), (3, 1), (4, 1), (5, 1), (6, 1), (7, 1), (8, 1), (9, 1), (10, 1), (11, 1), (12, 4)] := ⟨_, Try.underlying72, fun _ => by kernel_rfl⟩
theorem sz73 : Sz Try.prog 73 16 := (by kernel_rfl : (Try.prog.info? 73).map (·.size) = some 16)
theorem by73 : By Try.prog 73 16 := (by kernel_rfl : (Try.prog.info? 73).map (·.bytes) = some 16)
theorem zr73 : Zr Try.prog 73 (.agg #[.int .u8 0, .int .u8 0, .int .u8 0, .int .u8 0, .int .u8 0, .int .u8 0, .int .u8 0, .int .u8 0, .int .u8 0, .int .u8 0, .bool false, .bool false, .int .u8 0, .int .u8 0, .int .u8 0, .int .u8 0]) := (by kernel_rfl : (Try.prog.info? 73).map (·.zero) = some (some (.agg #[.int .u8 0, .int .u8 0, .int .u8 0, .int .u8 0, .int .u8 0, .int .u8 0, .int .u8 0, .int .u8 0, .int .u8 0, .int .u8 0, .bool false, .bool false, .int .u8 0, .int .u8 0, .int .u8 0, .int .u8 0])))
theorem fb73_0 : fieldB Try.prog 73 0 = some (0, 5, 1) := by kernel_rfl
theorem fb73_1 : fieldB Try.prog 73 1 = some (1, 5, 1) := by kernel_rfl
theorem fb73_2 : fieldB Try.prog 73 2 = some (2, 5, 1) := by kernel_rfl
theorem fb73_3 : fieldB Try.prog 73 3 = some (3, 5, 1) := by kernel_rfl
theorem fb73_4 : fieldB Try.prog 73 4 = some (4, 5, 1) := by kernel_rfl
theorem fb73_5 : fieldB Try.prog 73 5 = some (5, 5, 1) := by kernel_rfl
theorem fb73_6 : fieldB Try.prog 73 6 = some (6, 5, 1) := by kernel_rfl
theorem fb73_7 : fieldB Try.prog 73 7 = some (7, 5, 1) := by kernel_rfl
theorem fb73_8 : fieldB Try.prog 73 8 = some (8, 5, 1) := by kernel_rfl
theorem fb73_9 : fieldB Try.prog 73 9 = some (9, 5, 1) := by kernel_rfl
theorem fb73_10 : fieldB Try.prog 73 10 = some (10, 4, 1) := by kernel_rfl
theorem fb73_11 : fieldB Try.prog 73 11 = some (11, 4, 1) := by kernel_rfl
theorem fb73_12 : fieldB Try.prog 73 12 = some (12, 55, 4) := by kernel_rfl
theorem pl73 : Pl Try.prog 73 [(0, 1), (1, 1), (2, 1), (3, 1), (4, 1), (5, 1), (6, 1), (7, 1), (8, 1), (9, 1), (10, 1), (11, 1), (12, 4)] := ⟨_, Try.underlying73, fun _ => by kernel_rfl⟩
theorem sz74 : Sz Try.prog 74 1 := (by kernel_rfl : (Try.prog.info? 74).map (·.size) = some 1)
theorem by74 : By Try.prog 74 2 := (by kernel_rfl : (Try.prog.info? 74).map (·.bytes) = some 2)
theorem zr74 : Zr Try.prog 74 (.int .u16 0) := (by kernel_rfl : (Try.prog.info? 74).map (·.zero) = some (some (.int .u16 0)))
theorem sz75 : Sz Try.prog 75 26 := (by kernel_rfl : (Try.prog.info? 75).map (·.size) = some 26)
theorem by75 : By Try.prog 75 56 := (by kernel_rfl : (Try.prog.info? 75).map (·.bytes) = some 56)
theorem zr75 : Zr Try.prog 75 (.agg #[.int .u8 0, .int .u8 0, .int .u8 0, .int .u8 0, .int .u8 0, .int .u8 0, .int .u8 0, .int .u8 0, .int .u8 0, .int .u8 0, .bool false, .bool false, .int .u8 0, .int .u8 0, .int .u8 0, .int .u8 0, .int .u8 0, .int .u8 0, .int .u8 0, .slice none 0 0, .int .u8 0, .int .u8 0, .int .u8 0, .int .u8 0, .int .u16 0, .bool false]) := (by kernel_rfl : (Try.prog.info? 75).map (·.zero) = some (some (.agg #[.int .u8 0, .int .u8 0, .int .u8 0, .int .u8 0, .int .u8 0, .int .u8 0, .int .u8 0, .int .u8 0, .int .u8 0, .int .u8 0, .bool false, .bool false, .int .u8 0, .int .u8 0, .int .u8 0, .int .u8 0, .int .u8 0, .int .u8 0, .int .u8 0, .slice none 0 0, .int .u8 0, .int .u8 0, .int .u8 0, .int .u8 0, .int .u16 0, .bool false])))
theorem fb75_0 : fieldB Try.prog 75 0 = some (0, 73, 16) := by kernel_rfl
theorem fb75_1 : fieldB Try.prog 75 1 = some (16, 5, 1) := by kernel_rfl
theorem fb75_2 : fieldB Try.prog 75 2 = some (17, 5, 1) := by kernel_rfl
theorem fb75_3 : fieldB Try.prog 75 3 = some (18, 5, 1) := by kernel_rfl
theorem fb75_4 : fieldB Try.prog 75 4 = some (19, 63, 1) := by kernel_rfl
theorem fb75_5 : fieldB Try.prog 75 5 = some (20, 55, 4) := by kernel_rfl
theorem fb75_6 : fieldB Try.prog 75 6 = some (24, 74, 1) := by kernel_rfl
theorem fb75_7 : fieldB Try.prog 75 7 = some (25, 4, 1) := by kernel_rfl
theorem pl75 : Pl Try.prog 75 [(0, 16), (16, 1), (17, 1), (18, 1), (19, 1), (20, 4), (24, 1), (25, 1)] := ⟨_, Try.underlying75, fun _ => by kernel_rfl⟩
theorem sz76 : Sz Try.prog 76 26 := (by kernel_rfl : (Try.prog.info? 76).map (·.size) = some 26)
theorem by76 : By Try.prog 76 56 := (by kernel_rfl : (Try.prog.info? 76).map (·.bytes) = some 56)
theorem zr76 : Zr Try.prog 76 (.agg #[.int .u8 0, .int .u8 0, .int .u8 0, .int .u8 0, .int .u8 0, .int .u8 0, .int .u8 0, .int .u8 0, .int .u8 0, .int .u8 0, .bool false, .bool false, .int .u8 0, .int .u8 0, .int .u8 0, .int .u8 0, .int .u8 0, .int .u8 0, .int .u8 0, .slice none 0 0, .int .u8 0, .int .u8 0, .int .u8 0, .int .u8 0, .int .u16 0, .bool false]) := (by kernel_rfl : (Try.prog.info? 76).map (·.zero) = some (some (.agg #[.int .u8 0, .int .u8 0, .int .u8 0, .int .u8 0, .int .u8 0, .int .u8 0, .int .u8 0, .int .u8 0, .int .u8 0, .int .u8 0, .bool false, .bool false, .int .u8 0, .int .u8 0, .int .u8 0, .int .u8 0, .int .u8 0, .int .u8 0, .int .u8 0, .slice none 0 0, .int .u8 0, .int .u8 0, .int .u8 0, .int .u8 0, .int .u16 0, .bool false])))
theorem fb76_0 : fieldB Try.prog 76 0 = some (0, 73, 16) := by kernel_rfl
theorem fb76_1 : fieldB Try.prog 76 1 = some (16, 5, 1) := by kernel_rfl
theorem fb76_2 : fieldB Try.prog 76 2 = some (17, 5, 1) := by kernel_rfl
theorem fb76_3 : fieldB Try.prog 76 3 = some (18, 5, 1) := by kernel_rfl
theorem fb76_4 : fieldB Try.prog 76 4 = some (19, 63, 1) := by kernel_rfl
theorem fb76_5 : fieldB Try.prog 76 5 = some (20, 55, 4) := by kernel_rfl
theorem fb76_6 : fieldB Try.prog 76 6 = some (24, 74, 1) := by kernel_rfl
theorem fb76_7 : fieldB Try.prog 76 7 = some (25, 4, 1) := by kernel_rfl
theorem pl76 : Pl Try.prog 76 [(0, 16), (16, 1), (17, 1), (18, 1), (19, 1), (20, 4), (24, 1), (25, 1)] := ⟨_, Try.underlying76, fun _ => by kernel_rfl⟩
theorem sz78 : Sz Try.prog 78 9 := (by kernel_rfl : (Try.prog.info? 78).map (·.size) = some 9)
theorem by78 : By Try.prog 78 14 := (by kernel_rfl : (Try.prog.info? 78).map (·.bytes) = some 14)
theorem zr78 : Zr Try.prog 78 (.agg #[.int .i16 0, .int .i16 0, .int .i16 0, .int .i16 0, .int .u8 0, .int .u8 0, .int .u8 0, .int .u8 0, .bool false]) := (by kernel_rfl : (Try.prog.info? 78).map (·.zero) = some (some (.agg #[.int .i16 0, .int .i16 0, .int .i16 0, .int .i16 0, .int .u8 0, .int .u8 0, .int .u8 0, .int .u8 0, .bool false])))
theorem fb78_0 : fieldB Try.prog 78 0 = some (0, 22, 1) := by kernel_rfl
theorem fb78_1 : fieldB Try.prog 78 1 = some (1, 22, 1) := by kernel_rfl
theorem fb78_2 : fieldB Try.prog 78 2 = some (2, 22, 1) := by kernel_rfl
theorem fb78_3 : fieldB Try.prog 78 3 = some (3, 22, 1) := by kernel_rfl
theorem fb78_4 : fieldB Try.prog 78 4 = some (4, 55, 4) := by kernel_rfl
theorem fb78_5 : fieldB Try.prog 78 5 = some (8, 4, 1) := by kernel_rfl
theorem pl78 : Pl Try.prog 78 [(0, 1), (1, 1), (2, 1), (3, 1), (4, 4), (8, 1)] := ⟨_, Try.underlying78, fun _ => by kernel_rfl⟩
theorem sz79 : Sz Try.prog 79 9 := (by kernel_rfl : (Try.prog.info? 79).map (·.size) = some 9)
theorem by79 : By Try.prog 79 14 := (by kernel_rfl : (Try.prog.info? 79).map (·.bytes) = some 14)
theorem zr79 : Zr Try.prog 79 (.agg #[.int .i16 0, .int .i16 0, .int .i16 0, .int .i16 0, .int .u8 0, .int .u8 0, .int .u8 0, .int .u8 0, .bool false]) := (by kernel_rfl : (Try.prog.info? 79).map (·.zero) = some (some (.agg #[.int .i16 0, .int .i16 0, .int .i16 0, .int .i16 0, .int .u8 0, .int .u8 0, .int .u8 0, .int .u8 0, .bool false])))
theorem fb79_0 : fieldB Try.prog 79 0 = some (0, 22, 1) := by kernel_rfl
theorem fb79_1 : fieldB Try.prog 79 1 = some (1, 22, 1) := by kernel_rfl
theorem fb79_2 : fieldB Try.prog 79 2 = some (2, 22, 1) := by kernel_rfl
theorem fb79_3 : fieldB Try.prog 79 3 = some (3, 22, 1) := by kernel_rfl
theorem fb79_4 : fieldB Try.prog 79 4 = some (4, 55, 4) := by kernel_rfl
theorem fb79_5 : fieldB Try.prog 79 5 = some (8, 4, 1) := by kernel_rfl
theorem pl79 : Pl Try.prog 79 [(0, 1), (1, 1), (2, 1), (3, 1), (4, 4), (8, 1)] := ⟨_, Try.underlying79, fun _ => by kernel_rfl⟩
theorem sz90 : Sz Try.prog 90 1 := (by kernel_rfl : (Try.prog.info? 90).map (·.size) = some 1)
theorem by90 : By Try.prog 90 8 := (by kernel_rfl : (Try.prog.info? 90).map (·.bytes) = some 8)
theorem zr90 : Zr Try.prog 90 (.int .u64 0) := (by kernel_rfl : (Try.prog.info? 90).map (·.zero) = some (some (.int .u64 0)))
theorem sz94 : Sz Try.prog 94 1 := (by kernel_rfl : (Try.prog.info? 94).map (·.size) = some 1)
theorem by94 : By Try.prog 94 24 := (by kernel_rfl : (Try.prog.info? 94).map (·.bytes) = some 24)
theorem zr94 : Zr Try.prog 94 (.slice none 0 0) := (by kernel_rfl : (Try.prog.info? 94).map (·.zero) = some (some (.slice none 0 0)))
theorem sz95 : Sz Try.prog 95 1 := (by kernel_rfl : (Try.prog.info? 95).map (·.size) = some 1)
theorem by95 : By Try.prog 95 8 := (by kernel_rfl : (Try.prog.info? 95).map (·.bytes) = some 8)
theorem zr95 : Zr Try.prog 95 (.pointer none) := (by kernel_rfl : (Try.prog.info? 95).map (·.zero) = some (some (.pointer none)))
theorem sz96 : Sz Try.prog 96 1 := (by kernel_rfl : (Try.prog.info? 96).map (·.size) = some 1)
theorem by96 : By Try.prog 96 24 := (by kernel_rfl : (Try.prog.info? 96).map (·.bytes) = some 24)
theorem zr96 : Zr Try.prog 96 (.agg #[.slice none 0 0]) := (by kernel_rfl : (Try.prog.info? 96).map (·.zero) = some (some (.agg #[.slice none 0 0])))
theorem fb96_0 : fieldB Try.prog 96 0 = some (0, 63, 1) := by kernel_rfl
theorem pl96 : Pl Try.prog 96 [(0, 1)] := ⟨_, Try.underlying96, fun _ => by kernel_rfl⟩
theorem sz97 : Sz Try.prog 97 1 := (by kernel_rfl : (Try.prog.info? 97).map (·.size) = some 1)
theorem by97 : By Try.prog 97 24 := (by kernel_rfl : (Try.prog.info? 97).map (·.bytes) = some 24)
theorem zr97 : Zr Try.prog 97 (.agg #[.slice none 0 0]) := (by kernel_rfl : (Try.prog.info? 97).map (·.zero) = some (some (.agg #[.slice none 0 0])))
theorem fb97_0 : fieldB Try.prog 97 0 = some (0, 63, 1) := by kernel_rfl
theorem pl97 : Pl Try.prog 97 [(0, 1)] := ⟨_, Try.underlying97, fun _ => by kernel_rfl⟩
theorem sz104 : Sz Try.prog 104 1 := (by kernel_rfl : (Try.prog.info? 104).map (·.size) = some 1)
theorem by104 : By Try.prog 104 8 := (by kernel_rfl : (Try.prog.info? 104).map (·.bytes) = some 8)
theorem zr104 : Zr Try.prog 104 (.pointer none) := (by kernel_rfl : (Try.prog.info? 104).map (·.zero) = some (some (.pointer none)))
theorem sz116 : Sz Try.prog 116 1 := (by kernel_rfl : (Try.prog.info? 116).map (·.size) = some 1)
theorem by116 : By Try.prog 116 8 := (by kernel_rfl : (Try.prog.info? 116).map (·.bytes) = some 8)
theorem zr116 : Zr Try.prog 116 (.int .u64 0) := (by kernel_rfl : (Try.prog.info? 116).map (·.zero) = some (some (.int .u64 0)))
theorem sz118 : Sz Try.prog 118 3 := (by kernel_rfl : (Try.prog.info? 118).map (·.size) = some 3)
theorem by118 : By Try.prog 118 40 := (by kernel_rfl : (Try.prog.info? 118).map (·.bytes) = some 40)
theorem zr118 : Zr Try.prog 118 (.agg #[.slice none 0 0, .int .i64 0, .int .i64 0]) := (by kernel_rfl : (Try.prog.info? 118).map (·.zero) = some (some (.agg #[.slice none 0 0, .int .i64 0, .int .i64 0])))
theorem fb118_0 : fieldB Try.prog 118 0 = some (0, 63, 1) := by kernel_rfl
theorem fb118_1 : fieldB Try.prog 118 1 = some (1, 3, 1) := by kernel_rfl
theorem fb118_2 : fieldB Try.prog 118 2 = some (2, 66, 1) := by kernel_rfl
theorem pl118 : Pl Try.prog 118 [(0, 1), (1, 1), (2, 1)] := ⟨_, Try.underlying118, fun _ => by kernel_rfl⟩
theorem sz119 : Sz Try.prog 119 3 := (by kernel_rfl : (Try.prog.info? 119).map (·.size) = some 3)
theorem by119 : By Try.prog 119 40 := (by kernel_rfl : (Try.prog.info? 119).map (·.bytes) = some 40)
theorem zr119 : Zr Try.prog 119 (.agg #[.slice none 0 0, .int .i64 0, .int .i64 0]) := (by kernel_rfl : (Try.prog.info? 119).map (·.zero) = some (some (.agg #[.slice none 0 0, .int .i64 0, .int .i64 0])))
theorem fb119_0 : fieldB Try.prog 119 0 = some (0, 63, 1) := by kernel_rfl
theorem fb119_1 : fieldB Try.prog 119 1 = some (1, 3, 1) := by kernel_rfl
theorem fb119_2 : fieldB Try.prog 119 2 = some (2, 66, 1) := by kernel_rfl
theorem pl119 : Pl Try.prog 119 [(0, 1), (1, 1), (2, 1)] := ⟨_, Try.underlying119, fun _ => by kernel_rfl⟩
theorem sz125 : Sz Try.prog 125 6 := (by kernel_rfl : (Try.prog.info? 125).map (·.size) = some 6)
theorem by125 : By Try.prog 125 8 := (by kernel_rfl : (Try.prog.info? 125).map (·.bytes) = some 8)
theorem zr125 : Zr Try.prog 125 (.agg #[.int .u8 0, .int .u8 0, .int .u8 0, .int .u8 0, .int .i16 0, .bool false]) := (by kernel_rfl : (Try.prog.info? 125).map (·.zero) = some (some (.agg #[.int .u8 0, .int .u8 0, .int .u8 0, .int .u8 0, .int .i16 0, .bool false])))
theorem fb125_0 : fieldB Try.prog 125 0 = some (0, 5, 1) := by kernel_rfl
theorem fb125_1 : fieldB Try.prog 125 1 = some (1, 5, 1) := by kernel_rfl
theorem fb125_2 : fieldB Try.prog 125 2 = some (2, 5, 1) := by kernel_rfl
theorem fb125_3 : fieldB Try.prog 125 3 = some (3, 5, 1) := by kernel_rfl
theorem fb125_4 : fieldB Try.prog 125 4 = some (4, 22, 1) := by kernel_rfl
theorem fb125_5 : fieldB Try.prog 125 5 = some (5, 4, 1) := by kernel_rfl
theorem pl125 : Pl Try.prog 125 [(0, 1), (1, 1), (2, 1), (3, 1), (4, 1), (5, 1)] := ⟨_, Try.underlying125, fun _ => by kernel_rfl⟩
theorem sz126 : Sz Try.prog 126 6 := (by kernel_rfl : (Try.prog.info? 126).map (·.size) = some 6)
theorem by126 : By Try.prog 126 8 := (by kernel_rfl : (Try.prog.info? 126).map (·.bytes) = some 8)
theorem zr126 : Zr Try.prog 126 (.agg #[.int .u8 0, .int .u8 0, .int .u8 0, .int .u8 0, .int .i16 0, .bool false]) := (by kernel_rfl : (Try.prog.info? 126).map (·.zero) = some (some (.agg #[.int .u8 0, .int .u8 0, .int .u8 0, .int .u8 0, .int .i16 0, .bool false])))
theorem fb126_0 : fieldB Try.prog 126 0 = some (0, 5, 1) := by kernel_rfl
theorem fb126_1 : fieldB Try.prog 126 1 = some (1, 5, 1) := by kernel_rfl
theorem fb126_2 : fieldB Try.prog 126 2 = some (2, 5, 1) := by kernel_rfl
theorem fb126_3 : fieldB Try.prog 126 3 = some (3, 5, 1) := by kernel_rfl
theorem fb126_4 : fieldB Try.prog 126 4 = some (4, 22, 1) := by kernel_rfl
theorem fb126_5 : fieldB Try.prog 126 5 = some (5, 4, 1) := by kernel_rfl
theorem pl126 : Pl Try.prog 126 [(0, 1), (1, 1), (2, 1), (3, 1), (4, 1), (5, 1)] := ⟨_, Try.underlying126, fun _ => by kernel_rfl⟩
theorem sz127 : Sz Try.prog 127 1 := (by kernel_rfl : (Try.prog.info? 127).map (·.size) = some 1)
theorem by127 : By Try.prog 127 8 := (by kernel_rfl : (Try.prog.info? 127).map (·.bytes) = some 8)
theorem zr127 : Zr Try.prog 127 (.pointer none) := (by kernel_rfl : (Try.prog.info? 127).map (·.zero) = some (some (.pointer none)))
theorem sz133 : Sz Try.prog 133 4 := (by kernel_rfl : (Try.prog.info? 133).map (·.size) = some 4)
theorem by133 : By Try.prog 133 40 := (by kernel_rfl : (Try.prog.info? 133).map (·.bytes) = some 40)
theorem zr133 : Zr Try.prog 133 (.agg #[.pointer none, .pointer none, .pointer none, .string .empty]) := (by kernel_rfl : (Try.prog.info? 133).map (·.zero) = some (some (.agg #[.pointer none, .pointer none, .pointer none, .string .empty])))
theorem fb133_0 : fieldB Try.prog 133 0 = some (0, 17, 1) := by kernel_rfl
theorem fb133_1 : fieldB Try.prog 133 1 = some (1, 17, 1) := by kernel_rfl
theorem fb133_2 : fieldB Try.prog 133 2 = some (2, 17, 1) := by kernel_rfl
theorem fb133_3 : fieldB Try.prog 133 3 = some (3, 9, 1) := by kernel_rfl
theorem pl133 : Pl Try.prog 133 [(0, 1), (1, 1), (2, 1), (3, 1)] := ⟨_, Try.underlying133, fun _ => by kernel_rfl⟩
theorem sz134 : Sz Try.prog 134 4 := (by kernel_rfl : (Try.prog.info? 134).map (·.size) = some 4)
theorem by134 : By Try.prog 134 40 := (by kernel_rfl : (Try.prog.info? 134).map (·.bytes) = some 40)
theorem zr134 : Zr Try.prog 134 (.agg #[.pointer none, .pointer none, .pointer none, .string .empty]) := (by kernel_rfl : (Try.prog.info? 134).map (·.zero) = some (some (.agg #[.pointer none, .pointer none, .pointer none, .string .empty])))
theorem fb134_0 : fieldB Try.prog 134 0 = some (0, 17, 1) := by kernel_rfl
theorem fb134_1 : fieldB Try.prog 134 1 = some (1, 17, 1) := by kernel_rfl
theorem fb134_2 : fieldB Try.prog 134 2 = some (2, 17, 1) := by kernel_rfl
theorem fb134_3 : fieldB Try.prog 134 3 = some (3, 9, 1) := by kernel_rfl
theorem pl134 : Pl Try.prog 134 [(0, 1), (1, 1), (2, 1), (3, 1)] := ⟨_, Try.underlying134, fun _ => by kernel_rfl⟩
theorem sz135 : Sz Try.prog 135 0 := (by kernel_rfl : (Try.prog.info? 135).map (·.size) = some 0)
theorem by135 : By Try.prog 135 0 := (by kernel_rfl : (Try.prog.info? 135).map (·.bytes) = some 0)
theorem zr135 : Zr Try.prog 135 (.agg #[]) := (by kernel_rfl : (Try.prog.info? 135).map (·.zero) = some (some (.agg #[])))
theorem sz136 : Sz Try.prog 136 0 := (by kernel_rfl : (Try.prog.info? 136).map (·.size) = some 0)
theorem by136 : By Try.prog 136 0 := (by kernel_rfl : (Try.prog.info? 136).map (·.bytes) = some 0)
theorem zr136 : Zr Try.prog 136 (.agg #[]) := (by kernel_rfl : (Try.prog.info? 136).map (·.zero) = some (some (.agg #[])))
theorem fb136_0 : fieldB Try.prog 136 0 = some (0, 135, 0) := by kernel_rfl
theorem pl136 : Pl Try.prog 136 [(0, 0)] := ⟨_, Try.underlying136, fun _ => by kernel_rfl⟩
theorem sz137 : Sz Try.prog 137 0 := (by kernel_rfl : (Try.prog.info? 137).map (·.size) = some 0)
theorem by137 : By Try.prog 137 0 := (by kernel_rfl : (Try.prog.info? 137).map (·.bytes) = some 0)
theorem zr137 : Zr Try.prog 137 (.agg #[]) := (by kernel_rfl : (Try.prog.info? 137).map (·.zero) = some (some (.agg #[])))
theorem fb137_0 : fieldB Try.prog 137 0 = some (0, 135, 0) := by kernel_rfl
theorem pl137 : Pl Try.prog 137 [(0, 0)] := ⟨_, Try.underlying137, fun _ => by kernel_rfl⟩
theorem sz138 : Sz Try.prog 138 1 := (by kernel_rfl : (Try.prog.info? 138).map (·.size) = some 1)
theorem by138 : By Try.prog 138 4 := (by kernel_rfl : (Try.prog.info? 138).map (·.bytes) = some 4)
theorem zr138 : Zr Try.prog 138 (.int .u32 0) := (by kernel_rfl : (Try.prog.info? 138).map (·.zero) = some (some (.int .u32 0)))
theorem sz139 : Sz Try.prog 139 1 := (by kernel_rfl : (Try.prog.info? 139).map (·.size) = some 1)
theorem by139 : By Try.prog 139 1 := (by kernel_rfl : (Try.prog.info? 139).map (·.bytes) = some 1)
theorem zr139 : Zr Try.prog 139 (.int .u8 0) := (by kernel_rfl : (Try.prog.info? 139).map (·.zero) = some (some (.int .u8 0)))
theorem sz140 : Sz Try.prog 140 1 := (by kernel_rfl : (Try.prog.info? 140).map (·.size) = some 1)
theorem by140 : By Try.prog 140 1 := (by kernel_rfl : (Try.prog.info? 140).map (·.bytes) = some 1)
theorem zr140 : Zr Try.prog 140 (.int .u8 0) := (by kernel_rfl : (Try.prog.info? 140).map (·.zero) = some (some (.int .u8 0)))
theorem sz142 : Sz Try.prog 142 1 := (by kernel_rfl : (Try.prog.info? 142).map (·.size) = some 1)
theorem by142 : By Try.prog 142 8 := (by kernel_rfl : (Try.prog.info? 142).map (·.bytes) = some 8)
theorem zr142 : Zr Try.prog 142 (.pointer none) := (by kernel_rfl : (Try.prog.info? 142).map (·.zero) = some (some (.pointer none)))
theorem sz143 : Sz Try.prog 143 1 := (by kernel_rfl : (Try.prog.info? 143).map (·.size) = some 1)
theorem by143 : By Try.prog 143 4 := (by kernel_rfl : (Try.prog.info? 143).map (·.bytes) = some 4)
theorem zr143 : Zr Try.prog 143 (.int .i32 0) := (by kernel_rfl : (Try.prog.info? 143).map (·.zero) = some (some (.int .i32 0)))
theorem sz144 : Sz Try.prog 144 1 := (by kernel_rfl : (Try.prog.info? 144).map (·.size) = some 1)
theorem by144 : By Try.prog 144 4 := (by kernel_rfl : (Try.prog.info? 144).map (·.bytes) = some 4)
theorem zr144 : Zr Try.prog 144 (.int .i32 0) := (by kernel_rfl : (Try.prog.info? 144).map (·.zero) = some (some (.int .i32 0)))
theorem sz145 : Sz Try.prog 145 11 := (by kernel_rfl : (Try.prog.info? 145).map (·.size) = some 11)
theorem by145 : By Try.prog 145 48 := (by kernel_rfl : (Try.prog.info? 145).map (·.bytes) = some 48)
theorem zr145 : Zr Try.prog 145 (.agg #[.int .u64 0, .int .u64 0, .int .u32 0, .int .u8 0, .int .u8 0, .int .u8 0, .int .u8 0, .nilFunc, .pointer none, .int .i32 0, .int .i32 0]) := (by kernel_rfl : (Try.prog.info? 145).map (·.zero) = some (some (.agg #[.int .u64 0, .int .u64 0, .int .u32 0, .int .u8 0, .int .u8 0, .int .u8 0, .int .u8 0, .nilFunc, .pointer none, .int .i32 0, .int .i32 0])))
theorem fb145_0 : fieldB Try.prog 145 0 = some (0, 12, 1) := by kernel_rfl
theorem fb145_1 : fieldB Try.prog 145 1 = some (1, 12, 1) := by kernel_rfl
theorem fb145_2 : fieldB Try.prog 145 2 = some (2, 138, 1) := by kernel_rfl
theorem fb145_3 : fieldB Try.prog 145 3 = some (3, 139, 1) := by kernel_rfl
theorem fb145_4 : fieldB Try.prog 145 4 = some (4, 5, 1) := by kernel_rfl
theorem fb145_5 : fieldB Try.prog 145 5 = some (5, 5, 1) := by kernel_rfl
theorem fb145_6 : fieldB Try.prog 145 6 = some (6, 140, 1) := by kernel_rfl
theorem fb145_8 : fieldB Try.prog 145 8 = some (8, 142, 1) := by kernel_rfl
theorem fb145_9 : fieldB Try.prog 145 9 = some (9, 143, 1) := by kernel_rfl
theorem fb145_10 : fieldB Try.prog 145 10 = some (10, 144, 1) := by kernel_rfl
theorem sz146 : Sz Try.prog 146 11 := (by kernel_rfl : (Try.prog.info? 146).map (·.size) = some 11)
theorem by146 : By Try.prog 146 48 := (by kernel_rfl : (Try.prog.info? 146).map (·.bytes) = some 48)
theorem zr146 : Zr Try.prog 146 (.agg #[.int .u64 0, .int .u64 0, .int .u32 0, .int .u8 0, .int .u8 0, .int .u8 0, .int .u8 0, .nilFunc, .pointer none, .int .i32 0, .int .i32 0]) := (by kernel_rfl : (Try.prog.info? 146).map (·.zero) = some (some (.agg #[.int .u64 0, .int .u64 0, .int .u32 0, .int .u8 0, .int .u8 0, .int .u8 0, .int .u8 0, .nilFunc, .pointer none, .int .i32 0, .int .i32 0])))
theorem fb146_0 : fieldB Try.prog 146 0 = some (0, 12, 1) := by kernel_rfl
theorem fb146_1 : fieldB Try.prog 146 1 = some (1, 12, 1) := by kernel_rfl
theorem fb146_2 : fieldB Try.prog 146 2 = some (2, 138, 1) := by kernel_rfl
theorem fb146_3 : fieldB Try.prog 146 3 = some (3, 139, 1) := by kernel_rfl
theorem fb146_4 : fieldB Try.prog 146 4 = some (4, 5, 1) := by kernel_rfl
theorem fb146_5 : fieldB Try.prog 146 5 = some (5, 5, 1) := by kernel_rfl
theorem fb146_6 : fieldB Try.prog 146 6 = some (6, 140, 1) := by kernel_rfl
theorem fb146_8 : fieldB Try.prog 146 8 = some (8, 142, 1) := by kernel_rfl
theorem fb146_9 : fieldB Try.prog 146 9 = some (9, 143, 1) := by kernel_rfl
theorem fb146_10 : fieldB Try.prog 146 10 = some (10, 144, 1) := by kernel_rfl
theorem fe31 : FE Try.prog 31 true [some .i64, some .i64, some .i64, some .i64] 2 := by
  have h := FE.array (len := 4) Try.underlying31 (FE.int Try.underlying3 sz3) sz31
  exact h
theorem eg31 : Try.prog.eqGuardType Try.prog.depth 31 = false := by kernel_rfl
theorem fe33 : FE Try.prog 33 true [some .i64, some .i64, some .i64, some .i64, some .i64, some .i64, some .i64, some .i64, some .i64, some .i64, some .i64, some .i64, some .i64, some .i64, some .i64, some .i64] 3 := by
  have h := FE.array (len := 4) Try.underlying33 fe31 sz33
  exact h
theorem eg33 : Try.prog.eqGuardType Try.prog.depth 33 = false := by kernel_rfl
theorem fe41 : FE Try.prog 41 true [some .i64, some .i64, some .i64, some .i64, some .i64, some .i64, some .i64, some .i64] 3 := by
  have h := FE.struct (c := 2) Try.underlying41 (.cons (by decide) rfl (FE.up (c' := 2) fe31 (by decide)) (.cons (by decide) rfl (FE.up (c' := 2) fe31 (by decide)) (.nil _))) (by kernel_rfl) sz41
  exact h
theorem eg41 : Try.prog.eqGuardType Try.prog.depth 41 = false := by kernel_rfl
theorem fe44 : FE Try.prog 44 true [some .u8, some .u8, some .u8, some .u8, some .i16] 2 := by
  have h := FE.struct (c := 1) Try.underlying44 (.cons (by decide) rfl (FE.up (c' := 1) (FE.int Try.underlying42 sz42) (by decide)) (.cons (by decide) rfl (FE.up (c' := 1) (FE.int Try.underlying5 sz5) (by decide)) (.cons (by decide) rfl (FE.up (c' := 1) (FE.int Try.underlying5 sz5) (by decide)) (.cons (by decide) rfl (FE.up (c' := 1) (FE.int Try.underlying5 sz5) (by decide)) (.cons (by decide) rfl (FE.up (c' := 1) (FE.int Try.underlying22 sz22) (by decide)) (.nil _)))))) (by kernel_rfl) sz44
  exact h
theorem eg44 : Try.prog.eqGuardType Try.prog.depth 44 = false := by kernel_rfl
theorem fe52 : FE Try.prog 52 true [some .i64, some .i64, some .i64, some .i64] 2 := by
  have h := FE.struct (c := 1) Try.underlying52 (.cons (by decide) rfl (FE.up (c' := 1) (FE.int Try.underlying3 sz3) (by decide)) (.cons (by decide) rfl (FE.up (c' := 1) (FE.int Try.underlying3 sz3) (by decide)) (.cons (by decide) rfl (FE.up (c' := 1) (FE.int Try.underlying3 sz3) (by decide)) (.cons (by decide) rfl (FE.up (c' := 1) (FE.int Try.underlying3 sz3) (by decide)) (.nil _))))) (by kernel_rfl) sz52
  exact h
theorem eg52 : Try.prog.eqGuardType Try.prog.depth 52 = false := by kernel_rfl
theorem fe54 : FE Try.prog 54 true [some .u8, none, some .u8, some .u8, some .u8, some .u8, some .u8, some .u8, some .u8, some .u8, some .u8, some .i64, some .i64, some .i64, some .i64] 3 := by
  have h := FE.struct (c := 2) Try.underlying54 (.cons (by decide) rfl (FE.up (c' := 2) (FE.int Try.underlying47 sz47) (by decide)) (.cons (by decide) rfl (FE.up (c' := 2) (FE.bool Try.underlying4 sz4) (by decide)) (.cons (by decide) rfl (FE.up (c' := 2) (FE.int Try.underlying47 sz47) (by decide)) (.cons (by decide) rfl (FE.up (c' := 2) (FE.int Try.underlying5 sz5) (by decide)) (.cons (by decide) rfl (FE.up (c' := 2) (FE.int Try.underlying5 sz5) (by decide)) (.cons (by decide) rfl (FE.up (c' := 2) (FE.int Try.underlying48 sz48) (by decide)) (.cons (by decide) rfl (FE.up (c' := 2) (FE.int Try.underlying48 sz48) (by decide)) (.cons (by decide) rfl (FE.up (c' := 2) (FE.int Try.underlying48 sz48) (by decide)) (.cons (by decide) rfl (FE.up (c' := 2) (FE.int Try.underlying49 sz49) (by decide)) (.cons (by decide) rfl (FE.up (c' := 2) (FE.int Try.underlying5 sz5) (by decide)) (.cons (by decide) rfl (FE.up (c' := 2) (FE.int Try.underlying50 sz50) (by decide)) (.cons (by decide) rfl (FE.up (c' := 2) fe52 (by decide)) (.nil _))))))))))))) (by kernel_rfl) sz54
  exact h
theorem eg54 : Try.prog.eqGuardType Try.prog.depth 54 = false := by kernel_rfl
theorem fe55 : FE Try.prog 55 true [some .u8, some .u8, some .u8, some .u8] 2 := by
  have h := FE.array (len := 4) Try.underlying55 (FE.int Try.underlying5 sz5) sz55
  exact h
theorem eg55 : Try.prog.eqGuardType Try.prog.depth 55 = false := by kernel_rfl
theorem fe57 : FE Try.prog 57 true [some .u8, some .u8, some .u8, some .u8, some .i64, some .u8, some .u8] 3 := by
  have h := FE.struct (c := 2) Try.underlying57 (.cons (by decide) rfl (FE.up (c' := 2) fe55 (by decide)) (.cons (by decide) rfl (FE.up (c' := 2) (FE.int Try.underlying3 sz3) (by decide)) (.cons (by decide) rfl (FE.up (c' := 2) (FE.int Try.underlying5 sz5) (by decide)) (.cons (by decide) rfl (FE.up (c' := 2) (FE.int Try.underlying5 sz5) (by decide)) (.nil _))))) (by kernel_rfl) sz57
  exact h
theorem eg57 : Try.prog.eqGuardType Try.prog.depth 57 = false := by kernel_rfl
theorem cl2 {N : Nat} {f : Nat → Value} {w : World} {d : Option Nat} {ty : TypeId} {pos : String} {af : Array Edge} {gd : Option (Nat × Bool)} {A : Array Operand} {B : Array TypeId} {l : List Value} (hl : A.toList.map (ev N f) = l) : (execOp (ev N f) ⟨d, .call { callee := .value (.func 2), args := A, argTypes := B }, ty, pos, af, gd⟩).run Try.prog w = .ok (.enter 2 l.toArray) w := r_call Try.func2 rfl (by decide) hl
theorem cv2 {N : Nat} {f : Nat → Value} {w : World} {d : Option Nat} {ty : TypeId} {pos : String} {af : Array Edge} {gd : Option (Nat × Bool)} {x : Operand} {A : Array Operand} {B : Array TypeId} {l cap : List Value} (hx : ev N f x = .func (.func 2) #[] cap.toArray) (hl : A.toList.map (ev N f) = l) : (execOp (ev N f) ⟨d, .call { callee := .value x, args := A, argTypes := B }, ty, pos, af, gd⟩).run Try.prog w = .ok (.enter 2 (l ++ cap).toArray) w := r_callv Try.func2 rfl (by decide) hx hl
theorem cl3 {N : Nat} {f : Nat → Value} {w : World} {d : Option Nat} {ty : TypeId} {pos : String} {af : Array Edge} {gd : Option (Nat × Bool)} {A : Array Operand} {B : Array TypeId} {l : List Value} (hl : A.toList.map (ev N f) = l) : (execOp (ev N f) ⟨d, .call { callee := .value (.func 3), args := A, argTypes := B }, ty, pos, af, gd⟩).run Try.prog w = .ok (.enter 3 l.toArray) w := r_call Try.func3 rfl (by decide) hl
theorem cv3 {N : Nat} {f : Nat → Value} {w : World} {d : Option Nat} {ty : TypeId} {pos : String} {af : Array Edge} {gd : Option (Nat × Bool)} {x : Operand} {A : Array Operand} {B : Array TypeId} {l cap : List Value} (hx : ev N f x = .func (.func 3) #[] cap.toArray) (hl : A.toList.map (ev N f) = l) : (execOp (ev N f) ⟨d, .call { callee := .value x, args := A, argTypes := B }, ty, pos, af, gd⟩).run Try.prog w = .ok (.enter 3 (l ++ cap).toArray) w := r_callv Try.func3 rfl (by decide) hx hl
theorem cl4 {N : Nat} {f : Nat → Value} {w : World} {d : Option Nat} {ty : TypeId} {pos : String} {af : Array Edge} {gd : Option (Nat × Bool)} {A : Array Operand} {B : Array TypeId} {l : List Value} (hl : A.toList.map (ev N f) = l) : (execOp (ev N f) ⟨d, .call { callee := .value (.func 4), args := A, argTypes := B }, ty, pos, af, gd⟩).run Try.prog w = .ok (.enter 4 l.toArray) w := r_call Try.func4 rfl (by decide) hl
theorem cv4 {N : Nat} {f : Nat → Value} {w : World} {d : Option Nat} {ty : TypeId} {pos : String} {af : Array Edge} {gd : Option (Nat × Bool)} {x : Operand} {A : Array Operand} {B : Array TypeId} {l cap : List Value} (hx : ev N f x = .func (.func 4) #[] cap.toArray) (hl : A.toList.map (ev N f) = l) : (execOp (ev N f) ⟨d, .call { callee := .value x, args := A, argTypes := B }, ty, pos, af, gd⟩).run Try.prog w = .ok (.enter 4 (l ++ cap).toArray) w := r_callv Try.func4 rfl (by decide) hx hl
theorem cl5 {N : Nat} {f : Nat → Value} {w : World} {d : Option Nat} {ty : TypeId} {pos : String} {af : Array Edge} {gd : Option (Nat × Bool)} {A : Array Operand} {B : Array TypeId} {l : List Value} (hl : A.toList.map (ev N f) = l) : (execOp (ev N f) ⟨d, .call { callee := .value (.func 5), args := A, argTypes := B }, ty, pos, af, gd⟩).run Try.prog w = .ok (.enter 5 l.toArray) w := r_call Try.func5 rfl (by decide) hl
theorem cv5 {N : Nat} {f : Nat → Value} {w : World} {d : Option Nat} {ty : TypeId} {pos : String} {af : Array Edge} {gd : Option (Nat × Bool)} {x : Operand} {A : Array Operand} {B : Array TypeId} {l cap : List Value} (hx : ev N f x = .func (.func 5) #[] cap.toArray) (hl : A.toList.map (ev N f) = l) : (execOp (ev N f) ⟨d, .call { callee := .value x, args := A, argTypes := B }, ty, pos, af, gd⟩).run Try.prog w = .ok (.enter 5 (l ++ cap).toArray) w := r_callv Try.func5 rfl (by decide) hx hl
theorem cl6 {N : Nat} {f : Nat → Value} {w : World} {d : Option Nat} {ty : TypeId} {pos : String} {af : Array Edge} {gd : Option (Nat × Bool)} {A : Array Operand} {B : Array TypeId} {l : List Value} (hl : A.toList.map (ev N f) = l) : (execOp (ev N f) ⟨d, .call { callee := .value (.func 6), args := A, argTypes := B }, ty, pos, af, gd⟩).run Try.prog w = .ok (.enter 6 l.toArray) w := r_call Try.func6 rfl (by decide) hl
theorem cv6 {N : Nat} {f : Nat → Value} {w : World} {d : Option Nat} {ty : TypeId} {pos : String} {af : Array Edge} {gd : Option (Nat × Bool)} {x : Operand} {A : Array Operand} {B : Array TypeId} {l cap : List Value} (hx : ev N f x = .func (.func 6) #[] cap.toArray) (hl : A.toList.map (ev N f) = l) : (execOp (ev N f) ⟨d, .call { callee := .value x, args := A, argTypes := B }, ty, pos, af, gd⟩).run Try.prog w = .ok (.enter 6 (l ++ cap).toArray) w := r_callv Try.func6 rfl (by decide) hx hl
theorem cl7 {N : Nat} {f : Nat → Value} {w : World} {d : Option Nat} {ty : TypeId} {pos : String} {af : Array Edge} {gd : Option (Nat × Bool)} {A : Array Operand} {B : Array TypeId} {l : List Value} (hl : A.toList.map (ev N f) = l) : (execOp (ev N f) ⟨d, .call { callee := .value (.func 7), args := A, argTypes := B }, ty, pos, af, gd⟩).run Try.prog w = .ok (.enter 7 l.toArray) w := r_call Try.func7 rfl (by decide) hl
theorem cv7 {N : Nat} {f : Nat → Value} {w : World} {d : Option Nat} {ty : TypeId} {pos : String} {af : Array Edge} {gd : Option (Nat × Bool)} {x : Operand} {A : Array Operand} {B : Array TypeId} {l cap : List Value} (hx : ev N f x = .func (.func 7) #[] cap.toArray) (hl : A.toList.map (ev N f) = l) : (execOp (ev N f) ⟨d, .call { callee := .value x, args := A, argTypes := B }, ty, pos, af, gd⟩).run Try.prog w = .ok (.enter 7 (l ++ cap).toArray) w := r_callv Try.func7 rfl (by decide) hx hl
theorem cl8 {N : Nat} {f : Nat → Value} {w : World} {d : Option Nat} {ty : TypeId} {pos : String} {af : Array Edge} {gd : Option (Nat × Bool)} {A : Array Operand} {B : Array TypeId} {l : List Value} (hl : A.toList.map (ev N f) = l) : (execOp (ev N f) ⟨d, .call { callee := .value (.func 8), args := A, argTypes := B }, ty, pos, af, gd⟩).run Try.prog w = .ok (.enter 8 l.toArray) w := r_call Try.func8 rfl (by decide) hl
theorem cv8 {N : Nat} {f : Nat → Value} {w : World} {d : Option Nat} {ty : TypeId} {pos : String} {af : Array Edge} {gd : Option (Nat × Bool)} {x : Operand} {A : Array Operand} {B : Array TypeId} {l cap : List Value} (hx : ev N f x = .func (.func 8) #[] cap.toArray) (hl : A.toList.map (ev N f) = l) : (execOp (ev N f) ⟨d, .call { callee := .value x, args := A, argTypes := B }, ty, pos, af, gd⟩).run Try.prog w = .ok (.enter 8 (l ++ cap).toArray) w := r_callv Try.func8 rfl (by decide) hx hl
theorem cl9 {N : Nat} {f : Nat → Value} {w : World} {d : Option Nat} {ty : TypeId} {pos : String} {af : Array Edge} {gd : Option (Nat × Bool)} {A : Array Operand} {B : Array TypeId} {l : List Value} (hl : A.toList.map (ev N f) = l) : (execOp (ev N f) ⟨d, .call { callee := .value (.func 9), args := A, argTypes := B }, ty, pos, af, gd⟩).run Try.prog w = .ok (.enter 9 l.toArray) w := r_call Try.func9 rfl (by decide) hl
theorem cv9 {N : Nat} {f : Nat → Value} {w : World} {d : Option Nat} {ty : TypeId} {pos : String} {af : Array Edge} {gd : Option (Nat × Bool)} {x : Operand} {A : Array Operand} {B : Array TypeId} {l cap : List Value} (hx : ev N f x = .func (.func 9) #[] cap.toArray) (hl : A.toList.map (ev N f) = l) : (execOp (ev N f) ⟨d, .call { callee := .value x, args := A, argTypes := B }, ty, pos, af, gd⟩).run Try.prog w = .ok (.enter 9 (l ++ cap).toArray) w := r_callv Try.func9 rfl (by decide) hx hl
theorem cl10 {N : Nat} {f : Nat → Value} {w : World} {d : Option Nat} {ty : TypeId} {pos : String} {af : Array Edge} {gd : Option (Nat × Bool)} {A : Array Operand} {B : Array TypeId} {l : List Value} (hl : A.toList.map (ev N f) = l) : (execOp (ev N f) ⟨d, .call { callee := .value (.func 10), args := A, argTypes := B }, ty, pos, af, gd⟩).run Try.prog w = .ok (.enter 10 l.toArray) w := r_call Try.func10 rfl (by decide) hl
theorem cv10 {N : Nat} {f : Nat → Value} {w : World} {d : Option Nat} {ty : TypeId} {pos : String} {af : Array Edge} {gd : Option (Nat × Bool)} {x : Operand} {A : Array Operand} {B : Array TypeId} {l cap : List Value} (hx : ev N f x = .func (.func 10) #[] cap.toArray) (hl : A.toList.map (ev N f) = l) : (execOp (ev N f) ⟨d, .call { callee := .value x, args := A, argTypes := B }, ty, pos, af, gd⟩).run Try.prog w = .ok (.enter 10 (l ++ cap).toArray) w := r_callv Try.func10 rfl (by decide) hx hl
theorem cl11 {N : Nat} {f : Nat → Value} {w : World} {d : Option Nat} {ty : TypeId} {pos : String} {af : Array Edge} {gd : Option (Nat × Bool)} {A : Array Operand} {B : Array TypeId} {l : List Value} (hl : A.toList.map (ev N f) = l) : (execOp (ev N f) ⟨d, .call { callee := .value (.func 11), args := A, argTypes := B }, ty, pos, af, gd⟩).run Try.prog w = .ok (.enter 11 l.toArray) w := r_call Try.func11 rfl (by decide) hl
theorem cv11 {N : Nat} {f : Nat → Value} {w : World} {d : Option Nat} {ty : TypeId} {pos : String} {af : Array Edge} {gd : Option (Nat × Bool)} {x : Operand} {A : Array Operand} {B : Array TypeId} {l cap : List Value} (hx : ev N f x = .func (.func 11) #[] cap.toArray) (hl : A.toList.map (ev N f) = l) : (execOp (ev N f) ⟨d, .call { callee := .value x, args := A, argTypes := B }, ty, pos, af, gd⟩).run Try.prog w = .ok (.enter 11 (l ++ cap).toArray) w := r_callv Try.func11 rfl (by decide) hx hl
theorem cl12 {N : Nat} {f : Nat → Value} {w : World} {d : Option Nat} {ty : TypeId} {pos : String} {af : Array Edge} {gd : Option (Nat × Bool)} {A : Array Operand} {B : Array TypeId} {l : List Value} (hl : A.toList.map (ev N f) = l) : (execOp (ev N f) ⟨d, .call { callee := .value (.func 12), args := A, argTypes := B }, ty, pos, af, gd⟩).run Try.prog w = .ok (.enter 12 l.toArray) w := r_call Try.func12 rfl (by decide) hl
theorem cv12 {N : Nat} {f : Nat → Value} {w : World} {d : Option Nat} {ty : TypeId} {pos : String} {af : Array Edge} {gd : Option (Nat × Bool)} {x : Operand} {A : Array Operand} {B : Array TypeId} {l cap : List Value} (hx : ev N f x = .func (.func 12) #[] cap.toArray) (hl : A.toList.map (ev N f) = l) : (execOp (ev N f) ⟨d, .call { callee := .value x, args := A, argTypes := B }, ty, pos, af, gd⟩).run Try.prog w = .ok (.enter 12 (l ++ cap).toArray) w := r_callv Try.func12 rfl (by decide) hx hl
theorem cl13 {N : Nat} {f : Nat → Value} {w : World} {d : Option Nat} {ty : TypeId} {pos : String} {af : Array Edge} {gd : Option (Nat × Bool)} {A : Array Operand} {B : Array TypeId} {l : List Value} (hl : A.toList.map (ev N f) = l) : (execOp (ev N f) ⟨d, .call { callee := .value (.func 13), args := A, argTypes := B }, ty, pos, af, gd⟩).run Try.prog w = .ok (.enter 13 l.toArray) w := r_call Try.func13 rfl (by decide) hl
theorem cv13 {N : Nat} {f : Nat → Value} {w : World} {d : Option Nat} {ty : TypeId} {pos : String} {af : Array Edge} {gd : Option (Nat × Bool)} {x : Operand} {A : Array Operand} {B : Array TypeId} {l cap : List Value} (hx : ev N f x = .func (.func 13) #[] cap.toArray) (hl : A.toList.map (ev N f) = l) : (execOp (ev N f) ⟨d, .call { callee := .value x, args := A, argTypes := B }, ty, pos, af, gd⟩).run Try.prog w = .ok (.enter 13 (l ++ cap).toArray) w := r_callv Try.func13 rfl (by decide) hx hl
theorem cl14 {N : Nat} {f : Nat → Value} {w : World} {d : Option Nat} {ty : TypeId} {pos : String} {af : Array Edge} {gd : Option (Nat × Bool)} {A : Array Operand} {B : Array TypeId} {l : List Value} (hl : A.toList.map (ev N f) = l) : (execOp (ev N f) ⟨d, .call { callee := .value (.func 14), args := A, argTypes := B }, ty, pos, af, gd⟩).run Try.prog w = .ok (.enter 14 l.toArray) w := r_call Try.func14 rfl (by decide) hl
theorem cv14 {N : Nat} {f : Nat → Value} {w : World} {d : Option Nat} {ty : TypeId} {pos : String} {af : Array Edge} {gd : Option (Nat × Bool)} {x : Operand} {A : Array Operand} {B : Array TypeId} {l cap : List Value} (hx : ev N f x = .func (.func 14) #[] cap.toArray) (hl : A.toList.map (ev N f) = l) : (execOp (ev N f) ⟨d, .call { callee := .value x, args := A, argTypes := B }, ty, pos, af, gd⟩).run Try.prog w = .ok (.enter 14 (l ++ cap).toArray) w := r_callv Try.func14 rfl (by decide) hx hl
theorem cl15 {N : Nat} {f : Nat → Value} {w : World} {d : Option Nat} {ty : TypeId} {pos : String} {af : Array Edge} {gd : Option (Nat × Bool)} {A : Array Operand} {B : Array TypeId} {l : List Value} (hl : A.toList.map (ev N f) = l) : (execOp (ev N f) ⟨d, .call { callee := .value (.func 15), args := A, argTypes := B }, ty, pos, af, gd⟩).run Try.prog w = .ok (.enter 15 l.toArray) w := r_call Try.func15 rfl (by decide) hl
theorem cv15 {N : Nat} {f : Nat → Value} {w : World} {d : Option Nat} {ty : TypeId} {pos : String} {af : Array Edge} {gd : Option (Nat × Bool)} {x : Operand} {A : Array Operand} {B : Array TypeId} {l cap : List Value} (hx : ev N f x = .func (.func 15) #[] cap.toArray) (hl : A.toList.map (ev N f) = l) : (execOp (ev N f) ⟨d, .call { callee := .value x, args := A, argTypes := B }, ty, pos, af, gd⟩).run Try.prog w = .ok (.enter 15 (l ++ cap).toArray) w := r_callv Try.func15 rfl (by decide) hx hl
theorem cl16 {N : Nat} {f : Nat → Value} {w : World} {d : Option Nat} {ty : TypeId} {pos : String} {af : Array Edge} {gd : Option (Nat × Bool)} {A : Array Operand} {B : Array TypeId} {l : List Value} (hl : A.toList.map (ev N f) = l) : (execOp (ev N f) ⟨d, .call { callee := .value (.func 16), args := A, argTypes := B }, ty, pos, af, gd⟩).run Try.prog w = .ok (.enter 16 l.toArray) w := r_call Try.func16 rfl (by decide) hl
theorem cv16 {N : Nat} {f : Nat → Value} {w : World} {d : Option Nat} {ty : TypeId} {pos : String} {af : Array Edge} {gd : Option (Nat × Bool)} {x : Operand} {A : Array Operand} {B : Array TypeId} {l cap : List Value} (hx : ev N f x = .func (.func 16) #[] cap.toArray) (hl : A.toList.map (ev N f) = l) : (execOp (ev N f) ⟨d, .call { callee := .value x, args := A, argTypes := B }, ty, pos, af, gd⟩).run Try.prog w = .ok (.enter 16 (l ++ cap).toArray) w := r_callv Try.func16 rfl (by decide) hx hl
theorem cl17 {N : Nat} {f : Nat → Value} {w : World} {d : Option Nat} {ty : TypeId} {pos : String} {af : Array Edge} {gd : Option (Nat × Bool)} {A : Array Operand} {B : Array TypeId} {l : List Value} (hl : A.toList.map (ev N f) = l) : (execOp (ev N f) ⟨d, .call { callee := .value (.func 17), args := A, argTypes := B }, ty, pos, af, gd⟩).run Try.prog w = .ok (.enter 17 l.toArray) w := r_call Try.func17 rfl (by decide) hl
theorem cv17 {N : Nat} {f : Nat → Value} {w : World} {d : Option Nat} {ty : TypeId} {pos : String} {af : Array Edge} {gd : Option (Nat × Bool)} {x : Operand} {A : Array Operand} {B : Array TypeId} {l cap : List Value} (hx : ev N f x = .func (.func 17) #[] cap.toArray) (hl : A.toList.map (ev N f) = l) : (execOp (ev N f) ⟨d, .call { callee := .value x, args := A, argTypes := B }, ty, pos, af, gd⟩).run Try.prog w = .ok (.enter 17 (l ++ cap).toArray) w := r_callv Try.func17 rfl (by decide) hx hl
theorem cl18 {N : Nat} {f : Nat → Value} {w : World} {d : Option Nat} {ty : TypeId} {pos : String} {af : Array Edge} {gd : Option (Nat × Bool)} {A : Array Operand} {B : Array TypeId} {l : List Value} (hl : A.toList.map (ev N f) = l) : (execOp (ev N f) ⟨d, .call { callee := .value (.func 18), args := A, argTypes := B }, ty, pos, af, gd⟩).run Try.prog w = .ok (.enter 18 l.toArray) w := r_call Try.func18 rfl (by decide) hl
theorem cv18 {N : Nat} {f : Nat → Value} {w : World} {d : Option Nat} {ty : TypeId} {pos : String} {af : Array Edge} {gd : Option (Nat × Bool)} {x : Operand} {A : Array Operand} {B : Array TypeId} {l cap : List Value} (hx : ev N f x = .func (.func 18) #[] cap.toArray) (hl : A.toList.map (ev N f) = l) : (execOp (ev N f) ⟨d, .call { callee := .value x, args := A, argTypes := B }, ty, pos, af, gd⟩).run Try.prog w = .ok (.enter 18 (l ++ cap).toArray) w := r_callv Try.func18 rfl (by decide) hx hl
theorem cl19 {N : Nat} {f : Nat → Value} {w : World} {d : Option Nat} {ty : TypeId} {pos : String} {af : Array Edge} {gd : Option (Nat × Bool)} {A : Array Operand} {B : Array TypeId} {l : List Value} (hl : A.toList.map (ev N f) = l) : (execOp (ev N f) ⟨d, .call { callee := .value (.func 19), args := A, argTypes := B }, ty, pos, af, gd⟩).run Try.prog w = .ok (.enter 19 l.toArray) w := r_call Try.func19 rfl (by decide) hl
theorem cv19 {N : Nat} {f : Nat → Value} {w : World} {d : Option Nat} {ty : TypeId} {pos : String} {af : Array Edge} {gd : Option (Nat × Bool)} {x : Operand} {A : Array Operand} {B : Array TypeId} {l cap : List Value} (hx : ev N f x = .func (.func 19) #[] cap.toArray) (hl : A.toList.map (ev N f) = l) : (execOp (ev N f) ⟨d, .call { callee := .value x, args := A, argTypes := B }, ty, pos, af, gd⟩).run Try.prog w = .ok (.enter 19 (l ++ cap).toArray) w := r_callv Try.func19 rfl (by decide) hx hl
theorem cl20 {N : Nat} {f : Nat → Value} {w : World} {d : Option Nat} {ty : TypeId} {pos : String} {af : Array Edge} {gd : Option (Nat × Bool)} {A : Array Operand} {B : Array TypeId} {l : List Value} (hl : A.toList.map (ev N f) = l) : (execOp (ev N f) ⟨d, .call { callee := .value (.func 20), args := A, argTypes := B }, ty, pos, af, gd⟩).run Try.prog w = .ok (.enter 20 l.toArray) w := r_call Try.func20 rfl (by decide) hl
theorem cv20 {N : Nat} {f : Nat → Value} {w : World} {d : Option Nat} {ty : TypeId} {pos : String} {af : Array Edge} {gd : Option (Nat × Bool)} {x : Operand} {A : Array Operand} {B : Array TypeId} {l cap : List Value} (hx : ev N f x = .func (.func 20) #[] cap.toArray) (hl : A.toList.map (ev N f) = l) : (execOp (ev N f) ⟨d, .call { callee := .value x, args := A, argTypes := B }, ty, pos, af, gd⟩).run Try.prog w = .ok (.enter 20 (l ++ cap).toArray) w := r_callv Try.func20 rfl (by decide) hx hl
theorem cl21 {N : Nat} {f : Nat → Value} {w : World} {d : Option Nat} {ty : TypeId} {pos : String} {af : Array Edge} {gd : Option (Nat × Bool)} {A : Array Operand} {B : Array TypeId} {l : List Value} (hl : A.toList.map (ev N f) = l) : (execOp (ev N f) ⟨d, .call { callee := .value (.func 21), args := A, argTypes := B }, ty, pos, af, gd⟩).run Try.prog w = .ok (.enter 21 l.toArray) w := r_call Try.func21 rfl (by decide) hl
theorem cv21 {N : Nat} {f : Nat → Value} {w : World} {d : Option Nat} {ty : TypeId} {pos : String} {af : Array Edge} {gd : Option (Nat × Bool)} {x : Operand} {A : Array Operand} {B : Array TypeId} {l cap : List Value} (hx : ev N f x = .func (.func 21) #[] cap.toArray) (hl : A.toList.map (ev N f) = l) : (execOp (ev N f) ⟨d, .call { callee := .value x, args := A, argTypes := B }, ty, pos, af, gd⟩).run Try.prog w = .ok (.enter 21 (l ++ cap).toArray) w := r_callv Try.func21 rfl (by decide) hx hl
theorem cl22 {N : Nat} {f : Nat → Value} {w : World} {d : Option Nat} {ty : TypeId} {pos : String} {af : Array Edge} {gd : Option (Nat × Bool)} {A : Array Operand} {B : Array TypeId} {l : List Value} (hl : A.toList.map (ev N f) = l) : (execOp (ev N f) ⟨d, .call { callee := .value (.func 22), args := A, argTypes := B }, ty, pos, af, gd⟩).run Try.prog w = .ok (.enter 22 l.toArray) w := r_call Try.func22 rfl (by decide) hl
theorem cv22 {N : Nat} {f : Nat → Value} {w : World} {d : Option Nat} {ty : TypeId} {pos : String} {af : Array Edge} {gd : Option (Nat × Bool)} {x : Operand} {A : Array Operand} {B : Array TypeId} {l cap : List Value} (hx : ev N f x = .func (.func 22) #[] cap.toArray) (hl : A.toList.map (ev N f) = l) : (execOp (ev N f) ⟨d, .call { callee := .value x, args := A, argTypes := B }, ty, pos, af, gd⟩).run Try.prog w = .ok (.enter 22 (l ++ cap).toArray) w := r_callv Try.func22 rfl (by decide) hx hl
theorem cl23 {N : Nat} {f : Nat → Value} {w : World} {d : Option Nat} {ty : TypeId} {pos : String} {af : Array Edge} {gd : Option (Nat × Bool)} {A : Array Operand} {B : Array TypeId} {l : List Value} (hl : A.toList.map (ev N f) = l) : (execOp (ev N f) ⟨d, .call { callee := .value (.func 23), args := A, argTypes := B }, ty, pos, af, gd⟩).run Try.prog w = .ok (.enter 23 l.toArray) w := r_call Try.func23 rfl (by decide) hl
theorem cv23 {N : Nat} {f : Nat → Value} {w : World} {d : Option Nat} {ty : TypeId} {pos : String} {af : Array Edge} {gd : Option (Nat × Bool)} {x : Operand} {A : Array Operand} {B : Array TypeId} {l cap : List Value} (hx : ev N f x = .func (.func 23) #[] cap.toArray) (hl : A.toList.map (ev N f) = l) : (execOp (ev N f) ⟨d, .call { callee := .value x, args := A, argTypes := B }, ty, pos, af, gd⟩).run Try.prog w = .ok (.enter 23 (l ++ cap).toArray) w := r_callv Try.func23 rfl (by decide) hx hl
theorem cl24 {N : Nat} {f : Nat → Value} {w : World} {d : Option Nat} {ty : TypeId} {pos : String} {af : Array Edge} {gd : Option (Nat × Bool)} {A : Array Operand} {B : Array TypeId} {l : List Value} (hl : A.toList.map (ev N f) = l) : (execOp (ev N f) ⟨d, .call { callee := .value (.func 24), args := A, argTypes := B }, ty, pos, af, gd⟩).run Try.prog w = .ok (.enter 24 l.toArray) w := r_call Try.func24 rfl (by decide) hl
theorem cv24 {N : Nat} {f : Nat → Value} {w : World} {d : Option Nat} {ty : TypeId} {pos : String} {af : Array Edge} {gd : Option (Nat × Bool)} {x : Operand} {A : Array Operand} {B : Array TypeId} {l cap : List Value} (hx : ev N f x = .func (.func 24) #[] cap.toArray) (hl : A.toList.map (ev N f) = l) : (execOp (ev N f) ⟨d, .call { callee := .value x, args := A, argTypes := B }, ty, pos, af, gd⟩).run Try.prog w = .ok (.enter 24 (l ++ cap).toArray) w := r_callv Try.func24 rfl (by decide) hx hl
theorem cl25 {N : Nat} {f : Nat → Value} {w : World} {d : Option Nat} {ty : TypeId} {pos : String} {af : Array Edge} {gd : Option (Nat × Bool)} {A : Array Operand} {B : Array TypeId} {l : List Value} (hl : A.toList.map (ev N f) = l) : (execOp (ev N f) ⟨d, .call { callee := .value (.func 25), args := A, argTypes := B }, ty, pos, af, gd⟩).run Try.prog w = .ok (.enter 25 l.toArray) w := r_call Try.func25 rfl (by decide) hl
theorem cv25 {N : Nat} {f : Nat → Value} {w : World} {d : Option Nat} {ty : TypeId} {pos : String} {af : Array Edge} {gd : Option (Nat × Bool)} {x : Operand} {A : Array Operand} {B : Array TypeId} {l cap : List Value} (hx : ev N f x = .func (.func 25) #[] cap.toArray) (hl : A.toList.map (ev N f) = l) : (execOp (ev N f) ⟨d, .call { callee := .value x, args := A, argTypes := B }, ty, pos, af, gd⟩).run Try.prog w = .ok (.enter 25 (l ++ cap).toArray) w := r_callv Try.func25 rfl (by decide) hx hl
theorem cl26 {N : Nat} {f : Nat → Value} {w : World} {d : Option Nat} {ty : TypeId} {pos : String} {af : Array Edge} {gd : Option (Nat × Bool)} {A : Array Operand} {B : Array TypeId} {l : List Value} (hl : A.toList.map (ev N f) = l) : (execOp (ev N f) ⟨d, .call { callee := .value (.func 26), args := A, argTypes := B }, ty, pos, af, gd⟩).run Try.prog w = .ok (.enter 26 l.toArray) w := r_call Try.func26 rfl (by decide) hl
theorem cv26 {N : Nat} {f : Nat → Value} {w : World} {d : Option Nat} {ty : TypeId} {pos : String} {af : Array Edge} {gd : Option (Nat × Bool)} {x : Operand} {A : Array Operand} {B : Array TypeId} {l cap : List Value} (hx : ev N f x = .func (.func 26) #[] cap.toArray) (hl : A.toList.map (ev N f) = l) : (execOp (ev N f) ⟨d, .call { callee := .value x, args := A, argTypes := B }, ty, pos, af, gd⟩).run Try.prog w = .ok (.enter 26 (l ++ cap).toArray) w := r_callv Try.func26 rfl (by decide) hx hl
theorem cl27 {N : Nat} {f : Nat → Value} {w : World} {d : Option Nat} {ty : TypeId} {pos : String} {af : Array Edge} {gd : Option (Nat × Bool)} {A : Array Operand} {B : Array TypeId} {l : List Value} (hl : A.toList.map (ev N f) = l) : (execOp (ev N f) ⟨d, .call { callee := .value (.func 27), args := A, argTypes := B }, ty, pos, af, gd⟩).run Try.prog w = .ok (.enter 27 l.toArray) w := r_call Try.func27 rfl (by decide) hl
theorem cv27 {N : Nat} {f : Nat → Value} {w : World} {d : Option Nat} {ty : TypeId} {pos : String} {af : Array Edge} {gd : Option (Nat × Bool)} {x : Operand} {A : Array Operand} {B : Array TypeId} {l cap : List Value} (hx : ev N f x = .func (.func 27) #[] cap.toArray) (hl : A.toList.map (ev N f) = l) : (execOp (ev N f) ⟨d, .call { callee := .value x, args := A, argTypes := B }, ty, pos, af, gd⟩).run Try.prog w = .ok (.enter 27 (l ++ cap).toArray) w := r_callv Try.func27 rfl (by decide) hx hl
theorem cl28 {N : Nat} {f : Nat → Value} {w : World} {d : Option Nat} {ty : TypeId} {pos : String} {af : Array Edge} {gd : Option (Nat × Bool)} {A : Array Operand} {B : Array TypeId} {l : List Value} (hl : A.toList.map (ev N f) = l) : (execOp (ev N f) ⟨d, .call { callee := .value (.func 28), args := A, argTypes := B }, ty, pos, af, gd⟩).run Try.prog w = .ok (.enter 28 l.toArray) w := r_call Try.func28 rfl (by decide) hl
theorem cv28 {N : Nat} {f : Nat → Value} {w : World} {d : Option Nat} {ty : TypeId} {pos : String} {af : Array Edge} {gd : Option (Nat × Bool)} {x : Operand} {A : Array Operand} {B : Array TypeId} {l cap : List Value} (hx : ev N f x = .func (.func 28) #[] cap.toArray) (hl : A.toList.map (ev N f) = l) : (execOp (ev N f) ⟨d, .call { callee := .value x, args := A, argTypes := B }, ty, pos, af, gd⟩).run Try.prog w = .ok (.enter 28 (l ++ cap).toArray) w := r_callv Try.func28 rfl (by decide) hx hl
theorem cl29 {N : Nat} {f : Nat → Value} {w : World} {d : Option Nat} {ty : TypeId} {pos : String} {af : Array Edge} {gd : Option (Nat × Bool)} {A : Array Operand} {B : Array TypeId} {l : List Value} (hl : A.toList.map (ev N f) = l) : (execOp (ev N f) ⟨d, .call { callee := .value (.func 29), args := A, argTypes := B }, ty, pos, af, gd⟩).run Try.prog w = .ok (.enter 29 l.toArray) w := r_call Try.func29 rfl (by decide) hl
theorem cv29 {N : Nat} {f : Nat → Value} {w : World} {d : Option Nat} {ty : TypeId} {pos : String} {af : Array Edge} {gd : Option (Nat × Bool)} {x : Operand} {A : Array Operand} {B : Array TypeId} {l cap : List Value} (hx : ev N f x = .func (.func 29) #[] cap.toArray) (hl : A.toList.map (ev N f) = l) : (execOp (ev N f) ⟨d, .call { callee := .value x, args := A, argTypes := B }, ty, pos, af, gd⟩).run Try.prog w = .ok (.enter 29 (l ++ cap).toArray) w := r_callv Try.func29 rfl (by decide) hx hl
theorem cl30 {N : Nat} {f : Nat → Value} {w : World} {d : Option Nat} {ty : TypeId} {pos : String} {af : Array Edge} {gd : Option (Nat × Bool)} {A : Array Operand} {B : Array TypeId} {l : List Value} (hl : A.toList.map (ev N f) = l) : (execOp (ev N f) ⟨d, .call { callee := .value (.func 30), args := A, argTypes := B }, ty, pos, af, gd⟩).run Try.prog w = .ok (.enter 30 l.toArray) w := r_call Try.func30 rfl (by decide) hl
theorem cv30 {N : Nat} {f : Nat → Value} {w : World} {d : Option Nat} {ty : TypeId} {pos : String} {af : Array Edge} {gd : Option (Nat × Bool)} {x : Operand} {A : Array Operand} {B : Array TypeId} {l cap : List Value} (hx : ev N f x = .func (.func 30) #[] cap.toArray) (hl : A.toList.map (ev N f) = l) : (execOp (ev N f) ⟨d, .call { callee := .value x, args := A, argTypes := B }, ty, pos, af, gd⟩).run Try.prog w = .ok (.enter 30 (l ++ cap).toArray) w := r_callv Try.func30 rfl (by decide) hx hl
theorem cl31 {N : Nat} {f : Nat → Value} {w : World} {d : Option Nat} {ty : TypeId} {pos : String} {af : Array Edge} {gd : Option (Nat × Bool)} {A : Array Operand} {B : Array TypeId} {l : List Value} (hl : A.toList.map (ev N f) = l) : (execOp (ev N f) ⟨d, .call { callee := .value (.func 31), args := A, argTypes := B }, ty, pos, af, gd⟩).run Try.prog w = .ok (.enter 31 l.toArray) w := r_call Try.func31 rfl (by decide) hl
theorem cv31 {N : Nat} {f : Nat → Value} {w : World} {d : Option Nat} {ty : TypeId} {pos : String} {af : Array Edge} {gd : Option (Nat × Bool)} {x : Operand} {A : Array Operand} {B : Array TypeId} {l cap : List Value} (hx : ev N f x = .func (.func 31) #[] cap.toArray) (hl : A.toList.map (ev N f) = l) : (execOp (ev N f) ⟨d, .call { callee := .value x, args := A, argTypes := B }, ty, pos, af, gd⟩).run Try.prog w = .ok (.enter 31 (l ++ cap).toArray) w := r_callv Try.func31 rfl (by decide) hx hl
theorem cl32 {N : Nat} {f : Nat → Value} {w : World} {d : Option Nat} {ty : TypeId} {pos : String} {af : Array Edge} {gd : Option (Nat × Bool)} {A : Array Operand} {B : Array TypeId} {l : List Value} (hl : A.toList.map (ev N f) = l) : (execOp (ev N f) ⟨d, .call { callee := .value (.func 32), args := A, argTypes := B }, ty, pos, af, gd⟩).run Try.prog w = .ok (.enter 32 l.toArray) w := r_call Try.func32 rfl (by decide) hl
theorem cv32 {N : Nat} {f : Nat → Value} {w : World} {d : Option Nat} {ty : TypeId} {pos : String} {af : Array Edge} {gd : Option (Nat × Bool)} {x : Operand} {A : Array Operand} {B : Array TypeId} {l cap : List Value} (hx : ev N f x = .func (.func 32) #[] cap.toArray) (hl : A.toList.map (ev N f) = l) : (execOp (ev N f) ⟨d, .call { callee := .value x, args := A, argTypes := B }, ty, pos, af, gd⟩).run Try.prog w = .ok (.enter 32 (l ++ cap).toArray) w := r_callv Try.func32 rfl (by decide) hx hl
theorem cl33 {N : Nat} {f : Nat → Value} {w : World} {d : Option Nat} {ty : TypeId} {pos : String} {af : Array Edge} {gd : Option (Nat × Bool)} {A : Array Operand} {B : Array TypeId} {l : List Value} (hl : A.toList.map (ev N f) = l) : (execOp (ev N f) ⟨d, .call { callee := .value (.func 33), args := A, argTypes := B }, ty, pos, af, gd⟩).run Try.prog w = .ok (.enter 33 l.toArray) w := r_call Try.func33 rfl (by decide) hl
theorem cv33 {N : Nat} {f : Nat → Value} {w : World} {d : Option Nat} {ty : TypeId} {pos : String} {af : Array Edge} {gd : Option (Nat × Bool)} {x : Operand} {A : Array Operand} {B : Array TypeId} {l cap : List Value} (hx : ev N f x = .func (.func 33) #[] cap.toArray) (hl : A.toList.map (ev N f) = l) : (execOp (ev N f) ⟨d, .call { callee := .value x, args := A, argTypes := B }, ty, pos, af, gd⟩).run Try.prog w = .ok (.enter 33 (l ++ cap).toArray) w := r_callv Try.func33 rfl (by decide) hx hl
theorem cl34 {N : Nat} {f : Nat → Value} {w : World} {d : Option Nat} {ty : TypeId} {pos : String} {af : Array Edge} {gd : Option (Nat × Bool)} {A : Array Operand} {B : Array TypeId} {l : List Value} (hl : A.toList.map (ev N f) = l) : (execOp (ev N f) ⟨d, .call { callee := .value (.func 34), args := A, argTypes := B }, ty, pos, af, gd⟩).run Try.prog w = .ok (.enter 34 l.toArray) w := r_call Try.func34 rfl (by decide) hl
theorem cv34 {N : Nat} {f : Nat → Value} {w : World} {d : Option Nat} {ty : TypeId} {pos : String} {af : Array Edge} {gd : Option (Nat × Bool)} {x : Operand} {A : Array Operand} {B : Array TypeId} {l cap : List Value} (hx : ev N f x = .func (.func 34) #[] cap.toArray) (hl : A.toList.map (ev N f) = l) : (execOp (ev N f) ⟨d, .call { callee := .value x, args := A, argTypes := B }, ty, pos, af, gd⟩).run Try.prog w = .ok (.enter 34 (l ++ cap).toArray) w := r_callv Try.func34 rfl (by decide) hx hl
theorem cl35 {N : Nat} {f : Nat → Value} {w : World} {d : Option Nat} {ty : TypeId} {pos : String} {af : Array Edge} {gd : Option (Nat × Bool)} {A : Array Operand} {B : Array TypeId} {l : List Value} (hl : A.toList.map (ev N f) = l) : (execOp (ev N f) ⟨d, .call { callee := .value (.func 35), args := A, argTypes := B }, ty, pos, af, gd⟩).run Try.prog w = .ok (.enter 35 l.toArray) w := r_call Try.func35 rfl (by decide) hl
theorem cv35 {N : Nat} {f : Nat → Value} {w : World} {d : Option Nat} {ty : TypeId} {pos : String} {af : Array Edge} {gd : Option (Nat × Bool)} {x : Operand} {A : Array Operand} {B : Array TypeId} {l cap : List Value} (hx : ev N f x = .func (.func 35) #[] cap.toArray) (hl : A.toList.map (ev N f) = l) : (execOp (ev N f) ⟨d, .call { callee := .value x, args := A, argTypes := B }, ty, pos, af, gd⟩).run Try.prog w = .ok (.enter 35 (l ++ cap).toArray) w := r_callv Try.func35 rfl (by decide) hx hl
theorem cl36 {N : Nat} {f : Nat → Value} {w : World} {d : Option Nat} {ty : TypeId} {pos : String} {af : Array Edge} {gd : Option (Nat × Bool)} {A : Array Operand} {B : Array TypeId} {l : List Value} (hl : A.toList.map (ev N f) = l) : (execOp (ev N f) ⟨d, .call { callee := .value (.func 36), args := A, argTypes := B }, ty, pos, af, gd⟩).run Try.prog w = .ok (.enter 36 l.toArray) w := r_call Try.func36 rfl (by decide) hl
theorem cv36 {N : Nat} {f : Nat → Value} {w : World} {d : Option Nat} {ty : TypeId} {pos : String} {af : Array Edge} {gd : Option (Nat × Bool)} {x : Operand} {A : Array Operand} {B : Array TypeId} {l cap : List Value} (hx : ev N f x = .func (.func 36) #[] cap.toArray) (hl : A.toList.map (ev N f) = l) : (execOp (ev N f) ⟨d, .call { callee := .value x, args := A, argTypes := B }, ty, pos, af, gd⟩).run Try.prog w = .ok (.enter 36 (l ++ cap).toArray) w := r_callv Try.func36 rfl (by decide) hx hl
theorem cl37 {N : Nat} {f : Nat → Value} {w : World} {d : Option Nat} {ty : TypeId} {pos : String} {af : Array Edge} {gd : Option (Nat × Bool)} {A : Array Operand} {B : Array TypeId} {l : List Value} (hl : A.toList.map (ev N f) = l) : (execOp (ev N f) ⟨d, .call { callee := .value (.func 37), args := A, argTypes := B }, ty, pos, af, gd⟩).run Try.prog w = .ok (.enter 37 l.toArray) w := r_call Try.func37 rfl (by decide) hl
theorem cv37 {N : Nat} {f : Nat → Value} {w : World} {d : Option Nat} {ty : TypeId} {pos : String} {af : Array Edge} {gd : Option (Nat × Bool)} {x : Operand} {A : Array Operand} {B : Array TypeId} {l cap : List Value} (hx : ev N f x = .func (.func 37) #[] cap.toArray) (hl : A.toList.map (ev N f) = l) : (execOp (ev N f) ⟨d, .call { callee := .value x, args := A, argTypes := B }, ty, pos, af, gd⟩).run Try.prog w = .ok (.enter 37 (l ++ cap).toArray) w := r_callv Try.func37 rfl (by decide) hx hl
theorem cl38 {N : Nat} {f : Nat → Value} {w : World} {d : Option Nat} {ty : TypeId} {pos : String} {af : Array Edge} {gd : Option (Nat × Bool)} {A : Array Operand} {B : Array TypeId} {l : List Value} (hl : A.toList.map (ev N f) = l) : (execOp (ev N f) ⟨d, .call { callee := .value (.func 38), args := A, argTypes := B }, ty, pos, af, gd⟩).run Try.prog w = .ok (.enter 38 l.toArray) w := r_call Try.func38 rfl (by decide) hl
theorem cv38 {N : Nat} {f : Nat → Value} {w : World} {d : Option Nat} {ty : TypeId} {pos : String} {af : Array Edge} {gd : Option (Nat × Bool)} {x : Operand} {A : Array Operand} {B : Array TypeId} {l cap : List Value} (hx : ev N f x = .func (.func 38) #[] cap.toArray) (hl : A.toList.map (ev N f) = l) : (execOp (ev N f) ⟨d, .call { callee := .value x, args := A, argTypes := B }, ty, pos, af, gd⟩).run Try.prog w = .ok (.enter 38 (l ++ cap).toArray) w := r_callv Try.func38 rfl (by decide) hx hl
theorem cl39 {N : Nat} {f : Nat → Value} {w : World} {d : Option Nat} {ty : TypeId} {pos : String} {af : Array Edge} {gd : Option (Nat × Bool)} {A : Array Operand} {B : Array TypeId} {l : List Value} (hl : A.toList.map (ev N f) = l) : (execOp (ev N f) ⟨d, .call { callee := .value (.func 39), args := A, argTypes := B }, ty, pos, af, gd⟩).run Try.prog w = .ok (.enter 39 l.toArray) w := r_call Try.func39 rfl (by decide) hl
theorem cv39 {N : Nat} {f : Nat → Value} {w : World} {d : Option Nat} {ty : TypeId} {pos : String} {af : Array Edge} {gd : Option (Nat × Bool)} {x : Operand} {A : Array Operand} {B : Array TypeId} {l cap : List Value} (hx : ev N f x = .func (.func 39) #[] cap.toArray) (hl : A.toList.map (ev N f) = l) : (execOp (ev N f) ⟨d, .call { callee := .value x, args := A, argTypes := B }, ty, pos, af, gd⟩).run Try.prog w = .ok (.enter 39 (l ++ cap).toArray) w := r_callv Try.func39 rfl (by decide) hx hl
theorem cl40 {N : Nat} {f : Nat → Value} {w : World} {d : Option Nat} {ty : TypeId} {pos : String} {af : Array Edge} {gd : Option (Nat × Bool)} {A : Array Operand} {B : Array TypeId} {l : List Value} (hl : A.toList.map (ev N f) = l) : (execOp (ev N f) ⟨d, .call { callee := .value (.func 40), args := A, argTypes := B }, ty, pos, af, gd⟩).run Try.prog w = .ok (.enter 40 l.toArray) w := r_call Try.func40 rfl (by decide) hl
theorem cv40 {N : Nat} {f : Nat → Value} {w : World} {d : Option Nat} {ty : TypeId} {pos : String} {af : Array Edge} {gd : Option (Nat × Bool)} {x : Operand} {A : Array Operand} {B : Array TypeId} {l cap : List Value} (hx : ev N f x = .func (.func 40) #[] cap.toArray) (hl : A.toList.map (ev N f) = l) : (execOp (ev N f) ⟨d, .call { callee := .value x, args := A, argTypes := B }, ty, pos, af, gd⟩).run Try.prog w = .ok (.enter 40 (l ++ cap).toArray) w := r_callv Try.func40 rfl (by decide) hx hl
theorem cl41 {N : Nat} {f : Nat → Value} {w : World} {d : Option Nat} {ty : TypeId} {pos : String} {af : Array Edge} {gd : Option (Nat × Bool)} {A : Array Operand} {B : Array TypeId} {l : List Value} (hl : A.toList.map (ev N f) = l) : (execOp (ev N f) ⟨d, .call { callee := .value (.func 41), args := A, argTypes := B }, ty, pos, af, gd⟩).run Try.prog w = .ok (.enter 41 l.toArray) w := r_call Try.func41 rfl (by decide) hl
theorem cv41 {N : Nat} {f : Nat → Value} {w : World} {d : Option Nat} {ty : TypeId} {pos : String} {af : Array Edge} {gd : Option (Nat × Bool)} {x : Operand} {A : Array Operand} {B : Array TypeId} {l cap : List Value} (hx : ev N f x = .func (.func 41) #[] cap.toArray) (hl : A.toList.map (ev N f) = l) : (execOp (ev N f) ⟨d, .call { callee := .value x, args := A, argTypes := B }, ty, pos, af, gd⟩).run Try.prog w = .ok (.enter 41 (l ++ cap).toArray) w := r_callv Try.func41 rfl (by decide) hx hl
theorem cl42 {N : Nat} {f : Nat → Value} {w : World} {d : Option Nat} {ty : TypeId} {pos : String} {af : Array Edge} {gd : Option (Nat × Bool)} {A : Array Operand} {B : Array TypeId} {l : List Value} (hl : A.toList.map (ev N f) = l) : (execOp (ev N f) ⟨d, .call { callee := .value (.func 42), args := A, argTypes := B }, ty, pos, af, gd⟩).run Try.prog w = .ok (.enter 42 l.toArray) w := r_call Try.func42 rfl (by decide) hl
theorem cv42 {N : Nat} {f : Nat → Value} {w : World} {d : Option Nat} {ty : TypeId} {pos : String} {af : Array Edge} {gd : Option (Nat × Bool)} {x : Operand} {A : Array Operand} {B : Array TypeId} {l cap : List Value} (hx : ev N f x = .func (.func 42) #[] cap.toArray) (hl : A.toList.map (ev N f) = l) : (execOp (ev N f) ⟨d, .call { callee := .value x, args := A, argTypes := B }, ty, pos, af, gd⟩).run Try.prog w = .ok (.enter 42 (l ++ cap).toArray) w := r_callv Try.func42 rfl (by decide) hx hl
theorem cl43 {N : Nat} {f : Nat → Value} {w : World} {d : Option Nat} {ty : TypeId} {pos : String} {af : Array Edge} {gd : Option (Nat × Bool)} {A : Array Operand} {B : Array TypeId} {l : List Value} (hl : A.toList.map (ev N f) = l) : (execOp (ev N f) ⟨d, .call { callee := .value (.func 43), args := A, argTypes := B }, ty, pos, af, gd⟩).run Try.prog w = .ok (.enter 43 l.toArray) w := r_call Try.func43 rfl (by decide) hl
theorem cv43 {N : Nat} {f : Nat → Value} {w : World} {d : Option Nat} {ty : TypeId} {pos : String} {af : Array Edge} {gd : Option (Nat × Bool)} {x : Operand} {A : Array Operand} {B : Array TypeId} {l cap : List Value} (hx : ev N f x = .func (.func 43) #[] cap.toArray) (hl : A.toList.map (ev N f) = l) : (execOp (ev N f) ⟨d, .call { callee := .value x, args := A, argTypes := B }, ty, pos, af, gd⟩).run Try.prog w = .ok (.enter 43 (l ++ cap).toArray) w := r_callv Try.func43 rfl (by decide) hx hl
theorem cl44 {N : Nat} {f : Nat → Value} {w : World} {d : Option Nat} {ty : TypeId} {pos : String} {af : Array Edge} {gd : Option (Nat × Bool)} {A : Array Operand} {B : Array TypeId} {l : List Value} (hl : A.toList.map (ev N f) = l) : (execOp (ev N f) ⟨d, .call { callee := .value (.func 44), args := A, argTypes := B }, ty, pos, af, gd⟩).run Try.prog w = .ok (.enter 44 l.toArray) w := r_call Try.func44 rfl (by decide) hl
theorem cv44 {N : Nat} {f : Nat → Value} {w : World} {d : Option Nat} {ty : TypeId} {pos : String} {af : Array Edge} {gd : Option (Nat × Bool)} {x : Operand} {A : Array Operand} {B : Array TypeId} {l cap : List Value} (hx : ev N f x = .func (.func 44) #[] cap.toArray) (hl : A.toList.map (ev N f) = l) : (execOp (ev N f) ⟨d, .call { callee := .value x, args := A, argTypes := B }, ty, pos, af, gd⟩).run Try.prog w = .ok (.enter 44 (l ++ cap).toArray) w := r_callv Try.func44 rfl (by decide) hx hl
theorem cl45 {N : Nat} {f : Nat → Value} {w : World} {d : Option Nat} {ty : TypeId} {pos : String} {af : Array Edge} {gd : Option (Nat × Bool)} {A : Array Operand} {B : Array TypeId} {l : List Value} (hl : A.toList.map (ev N f) = l) : (execOp (ev N f) ⟨d, .call { callee := .value (.func 45), args := A, argTypes := B }, ty, pos, af, gd⟩).run Try.prog w = .ok (.enter 45 l.toArray) w := r_call Try.func45 rfl (by decide) hl
theorem cv45 {N : Nat} {f : Nat → Value} {w : World} {d : Option Nat} {ty : TypeId} {pos : String} {af : Array Edge} {gd : Option (Nat × Bool)} {x : Operand} {A : Array Operand} {B : Array TypeId} {l cap : List Value} (hx : ev N f x = .func (.func 45) #[] cap.toArray) (hl : A.toList.map (ev N f) = l) : (execOp (ev N f) ⟨d, .call { callee := .value x, args := A, argTypes := B }, ty, pos, af, gd⟩).run Try.prog w = .ok (.enter 45 (l ++ cap).toArray) w := r_callv Try.func45 rfl (by decide) hx hl
theorem cl46 {N : Nat} {f : Nat → Value} {w : World} {d : Option Nat} {ty : TypeId} {pos : String} {af : Array Edge} {gd : Option (Nat × Bool)} {A : Array Operand} {B : Array TypeId} {l : List Value} (hl : A.toList.map (ev N f) = l) : (execOp (ev N f) ⟨d, .call { callee := .value (.func 46), args := A, argTypes := B }, ty, pos, af, gd⟩).run Try.prog w = .ok (.enter 46 l.toArray) w := r_call Try.func46 rfl (by decide) hl
theorem cv46 {N : Nat} {f : Nat → Value} {w : World} {d : Option Nat} {ty : TypeId} {pos : String} {af : Array Edge} {gd : Option (Nat × Bool)} {x : Operand} {A : Array Operand} {B : Array TypeId} {l cap : List Value} (hx : ev N f x = .func (.func 46) #[] cap.toArray) (hl : A.toList.map (ev N f) = l) : (execOp (ev N f) ⟨d, .call { callee := .value x, args := A, argTypes := B }, ty, pos, af, gd⟩).run Try.prog w = .ok (.enter 46 (l ++ cap).toArray) w := r_callv Try.func46 rfl (by decide) hx hl
theorem cl47 {N : Nat} {f : Nat → Value} {w : World} {d : Option Nat} {ty : TypeId} {pos : String} {af : Array Edge} {gd : Option (Nat × Bool)} {A : Array Operand} {B : Array TypeId} {l : List Value} (hl : A.toList.map (ev N f) = l) : (execOp (ev N f) ⟨d, .call { callee := .value (.func 47), args := A, argTypes := B }, ty, pos, af, gd⟩).run Try.prog w = .ok (.enter 47 l.toArray) w := r_call Try.func47 rfl (by decide) hl
theorem cv47 {N : Nat} {f : Nat → Value} {w : World} {d : Option Nat} {ty : TypeId} {pos : String} {af : Array Edge} {gd : Option (Nat × Bool)} {x : Operand} {A : Array Operand} {B : Array TypeId} {l cap : List Value} (hx : ev N f x = .func (.func 47) #[] cap.toArray) (hl : A.toList.map (ev N f) = l) : (execOp (ev N f) ⟨d, .call { callee := .value x, args := A, argTypes := B }, ty, pos, af, gd⟩).run Try.prog w = .ok (.enter 47 (l ++ cap).toArray) w := r_callv Try.func47 rfl (by decide) hx hl
theorem cl48 {N : Nat} {f : Nat → Value} {w : World} {d : Option Nat} {ty : TypeId} {pos : String} {af : Array Edge} {gd : Option (Nat × Bool)} {A : Array Operand} {B : Array TypeId} {l : List Value} (hl : A.toList.map (ev N f) = l) : (execOp (ev N f) ⟨d, .call { callee := .value (.func 48), args := A, argTypes := B }, ty, pos, af, gd⟩).run Try.prog w = .ok (.enter 48 l.toArray) w := r_call Try.func48 rfl (by decide) hl
theorem cv48 {N : Nat} {f : Nat → Value} {w : World} {d : Option Nat} {ty : TypeId} {pos : String} {af : Array Edge} {gd : Option (Nat × Bool)} {x : Operand} {A : Array Operand} {B : Array TypeId} {l cap : List Value} (hx : ev N f x = .func (.func 48) #[] cap.toArray) (hl : A.toList.map (ev N f) = l) : (execOp (ev N f) ⟨d, .call { callee := .value x, args := A, argTypes := B }, ty, pos, af, gd⟩).run Try.prog w = .ok (.enter 48 (l ++ cap).toArray) w := r_callv Try.func48 rfl (by decide) hx hl
theorem cl49 {N : Nat} {f : Nat → Value} {w : World} {d : Option Nat} {ty : TypeId} {pos : String} {af : Array Edge} {gd : Option (Nat × Bool)} {A : Array Operand} {B : Array TypeId} {l : List Value} (hl : A.toList.map (ev N f) = l) : (execOp (ev N f) ⟨d, .call { callee := .value (.func 49), args := A, argTypes := B }, ty, pos, af, gd⟩).run Try.prog w = .ok (.enter 49 l.toArray) w := r_call Try.func49 rfl (by decide) hl
theorem cv49 {N : Nat} {f : Nat → Value} {w : World} {d : Option Nat} {ty : TypeId} {pos : String} {af : Array Edge} {gd : Option (Nat × Bool)} {x : Operand} {A : Array Operand} {B : Array TypeId} {l cap : List Value} (hx : ev N f x = .func (.func 49) #[] cap.toArray) (hl : A.toList.map (ev N f) = l) : (execOp (ev N f) ⟨d, .call { callee := .value x, args := A, argTypes := B }, ty, pos, af, gd⟩).run Try.prog w = .ok (.enter 49 (l ++ cap).toArray) w := r_callv Try.func49 rfl (by decide) hx hl
theorem cl50 {N : Nat} {f : Nat → Value} {w : World} {d : Option Nat} {ty : TypeId} {pos : String} {af : Array Edge} {gd : Option (Nat × Bool)} {A : Array Operand} {B : Array TypeId} {l : List Value} (hl : A.toList.map (ev N f) = l) : (execOp (ev N f) ⟨d, .call { callee := .value (.func 50), args := A, argTypes := B }, ty, pos, af, gd⟩).run Try.prog w = .ok (.enter 50 l.toArray) w := r_call Try.func50 rfl (by decide) hl
theorem cv50 {N : Nat} {f : Nat → Value} {w : World} {d : Option Nat} {ty : TypeId} {pos : String} {af : Array Edge} {gd : Option (Nat × Bool)} {x : Operand} {A : Array Operand} {B : Array TypeId} {l cap : List Value} (hx : ev N f x = .func (.func 50) #[] cap.toArray) (hl : A.toList.map (ev N f) = l) : (execOp (ev N f) ⟨d, .call { callee := .value x, args := A, argTypes := B }, ty, pos, af, gd⟩).run Try.prog w = .ok (.enter 50 (l ++ cap).toArray) w := r_callv Try.func50 rfl (by decide) hx hl
theorem cl51 {N : Nat} {f : Nat → Value} {w : World} {d : Option Nat} {ty : TypeId} {pos : String} {af : Array Edge} {gd : Option (Nat × Bool)} {A : Array Operand} {B : Array TypeId} {l : List Value} (hl : A.toList.map (ev N f) = l) : (execOp (ev N f) ⟨d, .call { callee := .value (.func 51), args := A, argTypes := B }, ty, pos, af, gd⟩).run Try.prog w = .ok (.enter 51 l.toArray) w := r_call Try.func51 rfl (by decide) hl
theorem cv51 {N : Nat} {f : Nat → Value} {w : World} {d : Option Nat} {ty : TypeId} {pos : String} {af : Array Edge} {gd : Option (Nat × Bool)} {x : Operand} {A : Array Operand} {B : Array TypeId} {l cap : List Value} (hx : ev N f x = .func (.func 51) #[] cap.toArray) (hl : A.toList.map (ev N f) = l) : (execOp (ev N f) ⟨d, .call { callee := .value x, args := A, argTypes := B }, ty, pos, af, gd⟩).run Try.prog w = .ok (.enter 51 (l ++ cap).toArray) w := r_callv Try.func51 rfl (by decide) hx hl
theorem cl52 {N : Nat} {f : Nat → Value} {w : World} {d : Option Nat} {ty : TypeId} {pos : String} {af : Array Edge} {gd : Option (Nat × Bool)} {A : Array Operand} {B : Array TypeId} {l : List Value} (hl : A.toList.map (ev N f) = l) : (execOp (ev N f) ⟨d, .call { callee := .value (.func 52), args := A, argTypes := B }, ty, pos, af, gd⟩).run Try.prog w = .ok (.enter 52 l.toArray) w := r_call Try.func52 rfl (by decide) hl
theorem cv52 {N : Nat} {f : Nat → Value} {w : World} {d : Option Nat} {ty : TypeId} {pos : String} {af : Array Edge} {gd : Option (Nat × Bool)} {x : Operand} {A : Array Operand} {B : Array TypeId} {l cap : List Value} (hx : ev N f x = .func (.func 52) #[] cap.toArray) (hl : A.toList.map (ev N f) = l) : (execOp (ev N f) ⟨d, .call { callee := .value x, args := A, argTypes := B }, ty, pos, af, gd⟩).run Try.prog w = .ok (.enter 52 (l ++ cap).toArray) w := r_callv Try.func52 rfl (by decide) hx hl
theorem cl53 {N : Nat} {f : Nat → Value} {w : World} {d : Option Nat} {ty : TypeId} {pos : String} {af : Array Edge} {gd : Option (Nat × Bool)} {A : Array Operand} {B : Array TypeId} {l : List Value} (hl : A.toList.map (ev N f) = l) : (execOp (ev N f) ⟨d, .call { callee := .value (.func 53), args := A, argTypes := B }, ty, pos, af, gd⟩).run Try.prog w = .ok (.enter 53 l.toArray) w := r_call Try.func53 rfl (by decide) hl
theorem cv53 {N : Nat} {f : Nat → Value} {w : World} {d : Option Nat} {ty : TypeId} {pos : String} {af : Array Edge} {gd : Option (Nat × Bool)} {x : Operand} {A : Array Operand} {B : Array TypeId} {l cap : List Value} (hx : ev N f x = .func (.func 53) #[] cap.toArray) (hl : A.toList.map (ev N f) = l) : (execOp (ev N f) ⟨d, .call { callee := .value x, args := A, argTypes := B }, ty, pos, af, gd⟩).run Try.prog w = .ok (.enter 53 (l ++ cap).toArray) w := r_callv Try.func53 rfl (by decide) hx hl
theorem cl54 {N : Nat} {f : Nat → Value} {w : World} {d : Option Nat} {ty : TypeId} {pos : String} {af : Array Edge} {gd : Option (Nat × Bool)} {A : Array Operand} {B : Array TypeId} {l : List Value} (hl : A.toList.map (ev N f) = l) : (execOp (ev N f) ⟨d, .call { callee := .value (.func 54), args := A, argTypes := B }, ty, pos, af, gd⟩).run Try.prog w = .ok (.enter 54 l.toArray) w := r_call Try.func54 rfl (by decide) hl
theorem cv54 {N : Nat} {f : Nat → Value} {w : World} {d : Option Nat} {ty : TypeId} {pos : String} {af : Array Edge} {gd : Option (Nat × Bool)} {x : Operand} {A : Array Operand} {B : Array TypeId} {l cap : List Value} (hx : ev N f x = .func (.func 54) #[] cap.toArray) (hl : A.toList.map (ev N f) = l) : (execOp (ev N f) ⟨d, .call { callee := .value x, args := A, argTypes := B }, ty, pos, af, gd⟩).run Try.prog w = .ok (.enter 54 (l ++ cap).toArray) w := r_callv Try.func54 rfl (by decide) hx hl
theorem cl55 {N : Nat} {f : Nat → Value} {w : World} {d : Option Nat} {ty : TypeId} {pos : String} {af : Array Edge} {gd : Option (Nat × Bool)} {A : Array Operand} {B : Array TypeId} {l : List Value} (hl : A.toList.map (ev N f) = l) : (execOp (ev N f) ⟨d, .call { callee := .value (.func 55), args := A, argTypes := B }, ty, pos, af, gd⟩).run Try.prog w = .ok (.enter 55 l.toArray) w := r_call Try.func55 rfl (by decide) hl
theorem cv55 {N : Nat} {f : Nat → Value} {w : World} {d : Option Nat} {ty : TypeId} {pos : String} {af : Array Edge} {gd : Option (Nat × Bool)} {x : Operand} {A : Array Operand} {B : Array TypeId} {l cap : List Value} (hx : ev N f x = .func (.func 55) #[] cap.toArray) (hl : A.toList.map (ev N f) = l) : (execOp (ev N f) ⟨d, .call { callee := .value x, args := A, argTypes := B }, ty, pos, af, gd⟩).run Try.prog w = .ok (.enter 55 (l ++ cap).toArray) w := r_callv Try.func55 rfl (by decide) hx hl
theorem cl56 {N : Nat} {f : Nat → Value} {w : World} {d : Option Nat} {ty : TypeId} {pos : String} {af : Array Edge} {gd : Option (Nat × Bool)} {A : Array Operand} {B : Array TypeId} {l : List Value} (hl : A.toList.map (ev N f) = l) : (execOp (ev N f) ⟨d, .call { callee := .value (.func 56), args := A, argTypes := B }, ty, pos, af, gd⟩).run Try.prog w = .ok (.enter 56 l.toArray) w := r_call Try.func56 rfl (by decide) hl
theorem cv56 {N : Nat} {f : Nat → Value} {w : World} {d : Option Nat} {ty : TypeId} {pos : String} {af : Array Edge} {gd : Option (Nat × Bool)} {x : Operand} {A : Array Operand} {B : Array TypeId} {l cap : List Value} (hx : ev N f x = .func (.func 56) #[] cap.toArray) (hl : A.toList.map (ev N f) = l) : (execOp (ev N f) ⟨d, .call { callee := .value x, args := A, argTypes := B }, ty, pos, af, gd⟩).run Try.prog w = .ok (.enter 56 (l ++ cap).toArray) w := r_callv Try.func56 rfl (by decide) hx hl
theorem cl57 {N : Nat} {f : Nat → Value} {w : World} {d : Option Nat} {ty : TypeId} {pos : String} {af : Array Edge} {gd : Option (Nat × Bool)} {A : Array Operand} {B : Array TypeId} {l : List Value} (hl : A.toList.map (ev N f) = l) : (execOp (ev N f) ⟨d, .call { callee := .value (.func 57), args := A, argTypes := B }, ty, pos, af, gd⟩).run Try.prog w = .ok (.enter 57 l.toArray) w := r_call Try.func57 rfl (by decide) hl
theorem cv57 {N : Nat} {f : Nat → Value} {w : World} {d : Option Nat} {ty : TypeId} {pos : String} {af : Array Edge} {gd : Option (Nat × Bool)} {x : Operand} {A : Array Operand} {B : Array TypeId} {l cap : List Value} (hx : ev N f x = .func (.func 57) #[] cap.toArray) (hl : A.toList.map (ev N f) = l) : (execOp (ev N f) ⟨d, .call { callee := .value x, args := A, argTypes := B }, ty, pos, af, gd⟩).run Try.prog w = .ok (.enter 57 (l ++ cap).toArray) w := r_callv Try.func57 rfl (by decide) hx hl
theorem cl58 {N : Nat} {f : Nat → Value} {w : World} {d : Option Nat} {ty : TypeId} {pos : String} {af : Array Edge} {gd : Option (Nat × Bool)} {A : Array Operand} {B : Array TypeId} {l : List Value} (hl : A.toList.map (ev N f) = l) : (execOp (ev N f) ⟨d, .call { callee := .value (.func 58), args := A, argTypes := B }, ty, pos, af, gd⟩).run Try.prog w = .ok (.enter 58 l.toArray) w := r_call Try.func58 rfl (by decide) hl
theorem cv58 {N : Nat} {f : Nat → Value} {w : World} {d : Option Nat} {ty : TypeId} {pos : String} {af : Array Edge} {gd : Option (Nat × Bool)} {x : Operand} {A : Array Operand} {B : Array TypeId} {l cap : List Value} (hx : ev N f x = .func (.func 58) #[] cap.toArray) (hl : A.toList.map (ev N f) = l) : (execOp (ev N f) ⟨d, .call { callee := .value x, args := A, argTypes := B }, ty, pos, af, gd⟩).run Try.prog w = .ok (.enter 58 (l ++ cap).toArray) w := r_callv Try.func58 rfl (by decide) hx hl
theorem cl59 {N : Nat} {f : Nat → Value} {w : World} {d : Option Nat} {ty : TypeId} {pos : String} {af : Array Edge} {gd : Option (Nat × Bool)} {A : Array Operand} {B : Array TypeId} {l : List Value} (hl : A.toList.map (ev N f) = l) : (execOp (ev N f) ⟨d, .call { callee := .value (.func 59), args := A, argTypes := B }, ty, pos, af, gd⟩).run Try.prog w = .ok (.enter 59 l.toArray) w := r_call Try.func59 rfl (by decide) hl
theorem cv59 {N : Nat} {f : Nat → Value} {w : World} {d : Option Nat} {ty : TypeId} {pos : String} {af : Array Edge} {gd : Option (Nat × Bool)} {x : Operand} {A : Array Operand} {B : Array TypeId} {l cap : List Value} (hx : ev N f x = .func (.func 59) #[] cap.toArray) (hl : A.toList.map (ev N f) = l) : (execOp (ev N f) ⟨d, .call { callee := .value x, args := A, argTypes := B }, ty, pos, af, gd⟩).run Try.prog w = .ok (.enter 59 (l ++ cap).toArray) w := r_callv Try.func59 rfl (by decide) hx hl
theorem cl60 {N : Nat} {f : Nat → Value} {w : World} {d : Option Nat} {ty : TypeId} {pos : String} {af : Array Edge} {gd : Option (Nat × Bool)} {A : Array Operand} {B : Array TypeId} {l : List Value} (hl : A.toList.map (ev N f) = l) : (execOp (ev N f) ⟨d, .call { callee := .value (.func 60), args := A, argTypes := B }, ty, pos, af, gd⟩).run Try.prog w = .ok (.enter 60 l.toArray) w := r_call Try.func60 rfl (by decide) hl
theorem cv60 {N : Nat} {f : Nat → Value} {w : World} {d : Option Nat} {ty : TypeId} {pos : String} {af : Array Edge} {gd : Option (Nat × Bool)} {x : Operand} {A : Array Operand} {B : Array TypeId} {l cap : List Value} (hx : ev N f x = .func (.func 60) #[] cap.toArray) (hl : A.toList.map (ev N f) = l) : (execOp (ev N f) ⟨d, .call { callee := .value x, args := A, argTypes := B }, ty, pos, af, gd⟩).run Try.prog w = .ok (.enter 60 (l ++ cap).toArray) w := r_callv Try.func60 rfl (by decide) hx hl
theorem cl61 {N : Nat} {f : Nat → Value} {w : World} {d : Option Nat} {ty : TypeId} {pos : String} {af : Array Edge} {gd : Option (Nat × Bool)} {A : Array Operand} {B : Array TypeId} {l : List Value} (hl : A.toList.map (ev N f) = l) : (execOp (ev N f) ⟨d, .call { callee := .value (.func 61), args := A, argTypes := B }, ty, pos, af, gd⟩).run Try.prog w = .ok (.enter 61 l.toArray) w := r_call Try.func61 rfl (by decide) hl
theorem cv61 {N : Nat} {f : Nat → Value} {w : World} {d : Option Nat} {ty : TypeId} {pos : String} {af : Array Edge} {gd : Option (Nat × Bool)} {x : Operand} {A : Array Operand} {B : Array TypeId} {l cap : List Value} (hx : ev N f x = .func (.func 61) #[] cap.toArray) (hl : A.toList.map (ev N f) = l) : (execOp (ev N f) ⟨d, .call { callee := .value x, args := A, argTypes := B }, ty, pos, af, gd⟩).run Try.prog w = .ok (.enter 61 (l ++ cap).toArray) w := r_callv Try.func61 rfl (by decide) hx hl
theorem cl62 {N : Nat} {f : Nat → Value} {w : World} {d : Option Nat} {ty : TypeId} {pos : String} {af : Array Edge} {gd : Option (Nat × Bool)} {A : Array Operand} {B : Array TypeId} {l : List Value} (hl : A.toList.map (ev N f) = l) : (execOp (ev N f) ⟨d, .call { callee := .value (.func 62), args := A, argTypes := B }, ty, pos, af, gd⟩).run Try.prog w = .ok (.enter 62 l.toArray) w := r_call Try.func62 rfl (by decide) hl
theorem cv62 {N : Nat} {f : Nat → Value} {w : World} {d : Option Nat} {ty : TypeId} {pos : String} {af : Array Edge} {gd : Option (Nat × Bool)} {x : Operand} {A : Array Operand} {B : Array TypeId} {l cap : List Value} (hx : ev N f x = .func (.func 62) #[] cap.toArray) (hl : A.toList.map (ev N f) = l) : (execOp (ev N f) ⟨d, .call { callee := .value x, args := A, argTypes := B }, ty, pos, af, gd⟩).run Try.prog w = .ok (.enter 62 (l ++ cap).toArray) w := r_callv Try.func62 rfl (by decide) hx hl
theorem cl63 {N : Nat} {f : Nat → Value} {w : World} {d : Option Nat} {ty : TypeId} {pos : String} {af : Array Edge} {gd : Option (Nat × Bool)} {A : Array Operand} {B : Array TypeId} {l : List Value} (hl : A.toList.map (ev N f) = l) : (execOp (ev N f) ⟨d, .call { callee := .value (.func 63), args := A, argTypes := B }, ty, pos, af, gd⟩).run Try.prog w = .ok (.enter 63 l.toArray) w := r_call Try.func63 rfl (by decide) hl
theorem cv63 {N : Nat} {f : Nat → Value} {w : World} {d : Option Nat} {ty : TypeId} {pos : String} {af : Array Edge} {gd : Option (Nat × Bool)} {x : Operand} {A : Array Operand} {B : Array TypeId} {l cap : List Value} (hx : ev N f x = .func (.func 63) #[] cap.toArray) (hl : A.toList.map (ev N f) = l) : (execOp (ev N f) ⟨d, .call { callee := .value x, args := A, argTypes := B }, ty, pos, af, gd⟩).run Try.prog w = .ok (.enter 63 (l ++ cap).toArray) w := r_callv Try.func63 rfl (by decide) hx hl
theorem cl64 {N : Nat} {f : Nat → Value} {w : World} {d : Option Nat} {ty : TypeId} {pos : String} {af : Array Edge} {gd : Option (Nat × Bool)} {A : Array Operand} {B : Array TypeId} {l : List Value} (hl : A.toList.map (ev N f) = l) : (execOp (ev N f) ⟨d, .call { callee := .value (.func 64), args := A, argTypes := B }, ty, pos, af, gd⟩).run Try.prog w = .ok (.enter 64 l.toArray) w := r_call Try.func64 rfl (by decide) hl
theorem cv64 {N : Nat} {f : Nat → Value} {w : World} {d : Option Nat} {ty : TypeId} {pos : String} {af : Array Edge} {gd : Option (Nat × Bool)} {x : Operand} {A : Array Operand} {B : Array TypeId} {l cap : List Value} (hx : ev N f x = .func (.func 64) #[] cap.toArray) (hl : A.toList.map (ev N f) = l) : (execOp (ev N f) ⟨d, .call { callee := .value x, args := A, argTypes := B }, ty, pos, af, gd⟩).run Try.prog w = .ok (.enter 64 (l ++ cap).toArray) w := r_callv Try.func64 rfl (by decide) hx hl
theorem cl65 {N : Nat} {f : Nat → Value} {w : World} {d : Option Nat} {ty : TypeId} {pos : String} {af : Array Edge} {gd : Option (Nat × Bool)} {A : Array Operand} {B : Array TypeId} {l : List Value} (hl : A.toList.map (ev N f) = l) : (execOp (ev N f) ⟨d, .call { callee := .value (.func 65), args := A, argTypes := B }, ty, pos, af, gd⟩).run Try.prog w = .ok (.enter 65 l.toArray) w := r_call Try.func65 rfl (by decide) hl
theorem cv65 {N : Nat} {f : Nat → Value} {w : World} {d : Option Nat} {ty : TypeId} {pos : String} {af : Array Edge} {gd : Option (Nat × Bool)} {x : Operand} {A : Array Operand} {B : Array TypeId} {l cap : List Value} (hx : ev N f x = .func (.func 65) #[] cap.toArray) (hl : A.toList.map (ev N f) = l) : (execOp (ev N f) ⟨d, .call { callee := .value x, args := A, argTypes := B }, ty, pos, af, gd⟩).run Try.prog w = .ok (.enter 65 (l ++ cap).toArray) w := r_callv Try.func65 rfl (by decide) hx hl
end Go.Proofs.Ytcjnniigonaapaa

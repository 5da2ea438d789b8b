/- Facts on the types of the program, each asked of its table by the kernel. Laid by program. -/
import Derived.Test.YtiedmigdgelhkaaOps
import Derived.Test.YtiedmigdgelhkaaOps2
import Derived.Test.YtiedmigdgelhkaaMem
import Derived.Test.YtiedmigdgelhkaaEq
import Derived.Test.YtiedmigdgelhkaaProg
import Derived.KernelRfl
namespace Go.Proofs.Ytiedmigdgelhkaa
open Go Go.RowKit Bx Go.Proofs
theorem mixed : Try.prog.follows .mixedOrders = true := by kernel_rfl
theorem one_1 : oneOk Try.prog 1 = true := by kernel_rfl
theorem siz_1 : sizeIs Try.prog 1 1 = true := by kernel_rfl
theorem zero_1 : zeroOf Try.prog 1 = some [.nilFunc] := by kernel_rfl
theorem one_2 : oneOk Try.prog 2 = true := by kernel_rfl
theorem siz_2 : sizeIs Try.prog 2 1 = true := by kernel_rfl
theorem zero_2 : zeroOf Try.prog 2 = some [.int .i64 0] := by kernel_rfl
theorem one_3 : oneOk Try.prog 3 = true := by kernel_rfl
theorem siz_3 : sizeIs Try.prog 3 1 = true := by kernel_rfl
theorem zero_3 : zeroOf Try.prog 3 = some [.int .i64 0] := by kernel_rfl
theorem one_4 : oneOk Try.prog 4 = true := by kernel_rfl
theorem siz_4 : sizeIs Try.prog 4 1 = true := by kernel_rfl
theorem zero_4 : zeroOf Try.prog 4 = some [.bool false] := by kernel_rfl
theorem one_5 : oneOk Try.prog 5 = true := by kernel_rfl
theorem siz_5 : sizeIs Try.prog 5 1 = true := by kernel_rfl
theorem zero_5 : zeroOf Try.prog 5 = some [.int .u8 0] := by kernel_rfl
theorem one_6 : oneOk Try.prog 6 = true := by kernel_rfl
theorem siz_6 : sizeIs Try.prog 6 1 = true := by kernel_rfl
theorem zero_6 : zeroOf Try.prog 6 = some [.int .u8 0] := by kernel_rfl
theorem agg_7 : aggOk Try.prog 7 4 = true := by kernel_rfl
theorem siz_7 : sizeIs Try.prog 7 4 = true := by kernel_rfl
theorem fld_7_0 : fieldOk Try.prog 7 0 0 = true := by kernel_rfl
theorem fld_7_1 : fieldOk Try.prog 7 1 1 = true := by kernel_rfl
theorem fld_7_2 : fieldOk Try.prog 7 2 2 = true := by kernel_rfl
theorem fld_7_3 : fieldOk Try.prog 7 3 3 = true := by kernel_rfl
theorem zero_7 : zeroOf Try.prog 7 = some [.int .i64 0, .int .i64 0, .bool false, .int .u8 0] := by kernel_rfl
theorem plc_7 : placesOf Try.prog 7 = some [(0, 1), (1, 1), (2, 1), (3, 1)] := by kernel_rfl
theorem agg_8 : aggOk Try.prog 8 4 = true := by kernel_rfl
theorem siz_8 : sizeIs Try.prog 8 4 = true := by kernel_rfl
theorem fld_8_0 : fieldOk Try.prog 8 0 0 = true := by kernel_rfl
theorem fld_8_1 : fieldOk Try.prog 8 1 1 = true := by kernel_rfl
theorem fld_8_2 : fieldOk Try.prog 8 2 2 = true := by kernel_rfl
theorem fld_8_3 : fieldOk Try.prog 8 3 3 = true := by kernel_rfl
theorem zero_8 : zeroOf Try.prog 8 = some [.int .i64 0, .int .i64 0, .bool false, .int .u8 0] := by kernel_rfl
theorem plc_8 : placesOf Try.prog 8 = some [(0, 1), (1, 1), (2, 1), (3, 1)] := by kernel_rfl
theorem one_9 : oneOk Try.prog 9 = true := by kernel_rfl
theorem siz_9 : sizeIs Try.prog 9 1 = true := by kernel_rfl
theorem und_9 : Try.prog.underlying 9 = some .string := by kernel_rfl
theorem zero_9 : zeroOf Try.prog 9 = some [.string ⟨#[]⟩] := by kernel_rfl
theorem one_10 : oneOk Try.prog 10 = true := by kernel_rfl
theorem siz_10 : sizeIs Try.prog 10 1 = true := by kernel_rfl
theorem und_10 : Try.prog.underlying 10 = some .string := by kernel_rfl
theorem zero_10 : zeroOf Try.prog 10 = some [.string ⟨#[]⟩] := by kernel_rfl
theorem one_11 : oneOk Try.prog 11 = true := by kernel_rfl
theorem siz_11 : sizeIs Try.prog 11 1 = true := by kernel_rfl
theorem und_11 : Try.prog.underlying 11 = some .string := by kernel_rfl
theorem zero_11 : zeroOf Try.prog 11 = some [.string ⟨#[]⟩] := by kernel_rfl
theorem one_12 : oneOk Try.prog 12 = true := by kernel_rfl
theorem siz_12 : sizeIs Try.prog 12 1 = true := by kernel_rfl
theorem zero_12 : zeroOf Try.prog 12 = some [.int .u64 0] := by kernel_rfl
theorem agg_13 : aggOk Try.prog 13 2 = true := by kernel_rfl
theorem siz_13 : sizeIs Try.prog 13 2 = true := by kernel_rfl
theorem fld_13_0 : fieldOk Try.prog 13 0 0 = true := by kernel_rfl
theorem fld_13_1 : fieldOk Try.prog 13 1 1 = true := by kernel_rfl
theorem zero_13 : zeroOf Try.prog 13 = some [.string ⟨#[]⟩, .int .u64 0] := by kernel_rfl
theorem plc_13 : placesOf Try.prog 13 = some [(0, 1), (1, 1)] := by kernel_rfl
theorem agg_14 : aggOk Try.prog 14 2 = true := by kernel_rfl
theorem siz_14 : sizeIs Try.prog 14 2 = true := by kernel_rfl
theorem fld_14_0 : fieldOk Try.prog 14 0 0 = true := by kernel_rfl
theorem fld_14_1 : fieldOk Try.prog 14 1 1 = true := by kernel_rfl
theorem zero_14 : zeroOf Try.prog 14 = some [.string ⟨#[]⟩, .int .u64 0] := by kernel_rfl
theorem plc_14 : placesOf Try.prog 14 = some [(0, 1), (1, 1)] := by kernel_rfl
theorem one_15 : oneOk Try.prog 15 = true := by kernel_rfl
theorem siz_15 : sizeIs Try.prog 15 1 = true := by kernel_rfl
theorem zero_15 : zeroOf Try.prog 15 = some [.pointer none] := by kernel_rfl
theorem one_16 : oneOk Try.prog 16 = true := by kernel_rfl
theorem siz_16 : sizeIs Try.prog 16 1 = true := by kernel_rfl
theorem zero_16 : zeroOf Try.prog 16 = some [.pointer none] := by kernel_rfl
theorem one_17 : oneOk Try.prog 17 = true := by kernel_rfl
theorem siz_17 : sizeIs Try.prog 17 1 = true := by kernel_rfl
theorem zero_17 : zeroOf Try.prog 17 = some [.pointer none] := by kernel_rfl
theorem agg_18 : aggOk Try.prog 18 1 = true := by kernel_rfl
theorem siz_18 : sizeIs Try.prog 18 1 = true := by kernel_rfl
theorem fld_18_0 : fieldOk Try.prog 18 0 0 = true := by kernel_rfl
theorem zero_18 : zeroOf Try.prog 18 = some [.pointer none] := by kernel_rfl
theorem plc_18 : placesOf Try.prog 18 = some [(0, 1)] := by kernel_rfl
theorem agg_19 : aggOk Try.prog 19 1 = true := by kernel_rfl
theorem siz_19 : sizeIs Try.prog 19 1 = true := by kernel_rfl
theorem fld_19_0 : fieldOk Try.prog 19 0 0 = true := by kernel_rfl
theorem zero_19 : zeroOf Try.prog 19 = some [.pointer none] := by kernel_rfl
theorem plc_19 : placesOf Try.prog 19 = some [(0, 1)] := by kernel_rfl
theorem one_20 : oneOk Try.prog 20 = true := by kernel_rfl
theorem siz_20 : sizeIs Try.prog 20 1 = true := by kernel_rfl
theorem zero_20 : zeroOf Try.prog 20 = some [.nilIface] := by kernel_rfl
theorem one_21 : oneOk Try.prog 21 = true := by kernel_rfl
theorem siz_21 : sizeIs Try.prog 21 1 = true := by kernel_rfl
theorem zero_21 : zeroOf Try.prog 21 = some [.int .i32 0] := by kernel_rfl
theorem one_22 : oneOk Try.prog 22 = true := by kernel_rfl
theorem siz_22 : sizeIs Try.prog 22 1 = true := by kernel_rfl
theorem sl_22 : sliceOk Try.prog 22 3 1 = true := by kernel_rfl
theorem el_22 : elemOk Try.prog 22 3 1 8 = true := by kernel_rfl
theorem und_22 : Try.prog.underlying 22 = some (.slice 3) := by kernel_rfl
theorem zero_22 : zeroOf Try.prog 22 = some [.slice none 0 0] := by kernel_rfl
theorem one_23 : oneOk Try.prog 23 = true := by kernel_rfl
theorem siz_23 : sizeIs Try.prog 23 1 = true := by kernel_rfl
theorem sl_23 : sliceOk Try.prog 23 35 2 = true := by kernel_rfl
theorem el_23 : elemOk Try.prog 23 35 2 16 = true := by kernel_rfl
theorem und_23 : Try.prog.underlying 23 = some (.slice 35) := by kernel_rfl
theorem zero_23 : zeroOf Try.prog 23 = some [.slice none 0 0] := by kernel_rfl
theorem one_24 : oneOk Try.prog 24 = true := by kernel_rfl
theorem siz_24 : sizeIs Try.prog 24 1 = true := by kernel_rfl
theorem sl_24 : sliceOk Try.prog 24 33 9 = true := by kernel_rfl
theorem el_24 : elemOk Try.prog 24 33 9 88 = true := by kernel_rfl
theorem und_24 : Try.prog.underlying 24 = some (.slice 33) := by kernel_rfl
theorem zero_24 : zeroOf Try.prog 24 = some [.slice none 0 0] := by kernel_rfl
theorem one_25 : oneOk Try.prog 25 = true := by kernel_rfl
theorem siz_25 : sizeIs Try.prog 25 1 = true := by kernel_rfl
theorem zero_25 : zeroOf Try.prog 25 = some [.nilFunc] := by kernel_rfl
theorem one_26 : oneOk Try.prog 26 = true := by kernel_rfl
theorem siz_26 : sizeIs Try.prog 26 1 = true := by kernel_rfl
theorem sl_26 : sliceOk Try.prog 26 31 7 = true := by kernel_rfl
theorem el_26 : elemOk Try.prog 26 31 7 56 = true := by kernel_rfl
theorem und_26 : Try.prog.underlying 26 = some (.slice 31) := by kernel_rfl
theorem zero_26 : zeroOf Try.prog 26 = some [.slice none 0 0] := by kernel_rfl
theorem one_27 : oneOk Try.prog 27 = true := by kernel_rfl
theorem siz_27 : sizeIs Try.prog 27 1 = true := by kernel_rfl
theorem zero_27 : zeroOf Try.prog 27 = some [.int .u64 0] := by kernel_rfl
theorem agg_28 : aggOk Try.prog 28 6 = true := by kernel_rfl
theorem siz_28 : sizeIs Try.prog 28 6 = true := by kernel_rfl
theorem fld_28_0 : fieldOk Try.prog 28 0 0 = true := by kernel_rfl
theorem fld_28_1 : fieldOk Try.prog 28 1 1 = true := by kernel_rfl
theorem fld_28_2 : fieldOk Try.prog 28 2 2 = true := by kernel_rfl
theorem fld_28_3 : fieldOk Try.prog 28 3 3 = true := by kernel_rfl
theorem fld_28_4 : fieldOk Try.prog 28 4 4 = true := by kernel_rfl
theorem fld_28_5 : fieldOk Try.prog 28 5 5 = true := by kernel_rfl
theorem zero_28 : zeroOf Try.prog 28 = some [.int .u64 0, .int .i64 0, .int .i64 0, .int .i64 0, .int .i64 0, .int .i64 0] := by kernel_rfl
theorem flat_28 : flatOk Try.prog 28 6 = true := by kernel_rfl
theorem plc_28 : placesOf Try.prog 28 = some [(0, 1), (1, 1), (2, 1), (3, 1), (4, 1), (5, 1)] := by kernel_rfl
theorem agg_29 : aggOk Try.prog 29 6 = true := by kernel_rfl
theorem siz_29 : sizeIs Try.prog 29 6 = true := by kernel_rfl
theorem fld_29_0 : fieldOk Try.prog 29 0 0 = true := by kernel_rfl
theorem fld_29_1 : fieldOk Try.prog 29 1 1 = true := by kernel_rfl
theorem fld_29_2 : fieldOk Try.prog 29 2 2 = true := by kernel_rfl
theorem fld_29_3 : fieldOk Try.prog 29 3 3 = true := by kernel_rfl
theorem fld_29_4 : fieldOk Try.prog 29 4 4 = true := by kernel_rfl
theorem fld_29_5 : fieldOk Try.prog 29 5 5 = true := by kernel_rfl
theorem zero_29 : zeroOf Try.prog 29 = some [.int .u64 0, .int .i64 0, .int .i64 0, .int .i64 0, .int .i64 0, .int .i64 0] := by kernel_rfl
theorem flat_29 : flatOk Try.prog 29 6 = true := by kernel_rfl
theorem plc_29 : placesOf Try.prog 29 = some [(0, 1), (1, 1), (2, 1), (3, 1), (4, 1), (5, 1)] := by kernel_rfl
theorem agg_30 : aggOk Try.prog 30 7 = true := by kernel_rfl
theorem siz_30 : sizeIs Try.prog 30 7 = true := by kernel_rfl
theorem fld_30_0 : fieldOk Try.prog 30 0 0 = true := by kernel_rfl
theorem fld_30_1 : fieldOk Try.prog 30 1 1 = true := by kernel_rfl
theorem zero_30 : zeroOf Try.prog 30 = some [.int .u64 0, .int .u64 0, .int .i64 0, .int .i64 0, .int .i64 0, .int .i64 0, .int .i64 0] := by kernel_rfl
theorem flat_30 : flatOk Try.prog 30 7 = true := by kernel_rfl
theorem plc_30 : placesOf Try.prog 30 = some [(0, 1), (1, 6)] := by kernel_rfl
theorem agg_31 : aggOk Try.prog 31 7 = true := by kernel_rfl
theorem siz_31 : sizeIs Try.prog 31 7 = true := by kernel_rfl
theorem fld_31_0 : fieldOk Try.prog 31 0 0 = true := by kernel_rfl
theorem fld_31_1 : fieldOk Try.prog 31 1 1 = true := by kernel_rfl
theorem zero_31 : zeroOf Try.prog 31 = some [.int .u64 0, .int .u64 0, .int .i64 0, .int .i64 0, .int .i64 0, .int .i64 0, .int .i64 0] := by kernel_rfl
theorem flat_31 : flatOk Try.prog 31 7 = true := by kernel_rfl
theorem plc_31 : placesOf Try.prog 31 = some [(0, 1), (1, 6)] := by kernel_rfl
theorem agg_32 : aggOk Try.prog 32 9 = true := by kernel_rfl
theorem siz_32 : sizeIs Try.prog 32 9 = true := by kernel_rfl
theorem fld_32_0 : fieldOk Try.prog 32 0 0 = true := by kernel_rfl
theorem fld_32_1 : fieldOk Try.prog 32 1 1 = true := by kernel_rfl
theorem fld_32_2 : fieldOk Try.prog 32 2 2 = true := by kernel_rfl
theorem zero_32 : zeroOf Try.prog 32 = some [.int .i64 0, .slice none 0 0, .int .u64 0, .int .u64 0, .int .i64 0, .int .i64 0, .int .i64 0, .int .i64 0, .int .i64 0] := by kernel_rfl
theorem plc_32 : placesOf Try.prog 32 = some [(0, 1), (1, 1), (2, 7)] := by kernel_rfl
theorem agg_33 : aggOk Try.prog 33 9 = true := by kernel_rfl
theorem siz_33 : sizeIs Try.prog 33 9 = true := by kernel_rfl
theorem fld_33_0 : fieldOk Try.prog 33 0 0 = true := by kernel_rfl
theorem fld_33_1 : fieldOk Try.prog 33 1 1 = true := by kernel_rfl
theorem fld_33_2 : fieldOk Try.prog 33 2 2 = true := by kernel_rfl
theorem zero_33 : zeroOf Try.prog 33 = some [.int .i64 0, .slice none 0 0, .int .u64 0, .int .u64 0, .int .i64 0, .int .i64 0, .int .i64 0, .int .i64 0, .int .i64 0] := by kernel_rfl
theorem plc_33 : placesOf Try.prog 33 = some [(0, 1), (1, 1), (2, 7)] := by kernel_rfl
theorem agg_34 : aggOk Try.prog 34 2 = true := by kernel_rfl
theorem siz_34 : sizeIs Try.prog 34 2 = true := by kernel_rfl
theorem fld_34_0 : fieldOk Try.prog 34 0 0 = true := by kernel_rfl
theorem fld_34_1 : fieldOk Try.prog 34 1 1 = true := by kernel_rfl
theorem zero_34 : zeroOf Try.prog 34 = some [.int .i64 0, .int .i64 0] := by kernel_rfl
theorem flat_34 : flatOk Try.prog 34 2 = true := by kernel_rfl
theorem plc_34 : placesOf Try.prog 34 = some [(0, 1), (1, 1)] := by kernel_rfl
theorem agg_35 : aggOk Try.prog 35 2 = true := by kernel_rfl
theorem siz_35 : sizeIs Try.prog 35 2 = true := by kernel_rfl
theorem fld_35_0 : fieldOk Try.prog 35 0 0 = true := by kernel_rfl
theorem fld_35_1 : fieldOk Try.prog 35 1 1 = true := by kernel_rfl
theorem zero_35 : zeroOf Try.prog 35 = some [.int .i64 0, .int .i64 0] := by kernel_rfl
theorem flat_35 : flatOk Try.prog 35 2 = true := by kernel_rfl
theorem plc_35 : placesOf Try.prog 35 = some [(0, 1), (1, 1)] := by kernel_rfl
theorem one_36 : oneOk Try.prog 36 = true := by kernel_rfl
theorem siz_36 : sizeIs Try.prog 36 1 = true := by kernel_rfl
theorem zero_36 : zeroOf Try.prog 36 = some [.int .i64 0] := by kernel_rfl
theorem one_38 : oneOk Try.prog 38 = true := by kernel_rfl
theorem siz_38 : sizeIs Try.prog 38 1 = true := by kernel_rfl
theorem zero_38 : zeroOf Try.prog 38 = some [.nilFunc] := by kernel_rfl
theorem one_39 : oneOk Try.prog 39 = true := by kernel_rfl
theorem siz_39 : sizeIs Try.prog 39 1 = true := by kernel_rfl
theorem zero_39 : zeroOf Try.prog 39 = some [.nilFunc] := by kernel_rfl
theorem one_41 : oneOk Try.prog 41 = true := by kernel_rfl
theorem siz_41 : sizeIs Try.prog 41 1 = true := by kernel_rfl
theorem zero_41 : zeroOf Try.prog 41 = some [.nilFunc] := by kernel_rfl
theorem one_42 : oneOk Try.prog 42 = true := by kernel_rfl
theorem siz_42 : sizeIs Try.prog 42 1 = true := by kernel_rfl
theorem zero_42 : zeroOf Try.prog 42 = some [.nilFunc] := by kernel_rfl
theorem one_43 : oneOk Try.prog 43 = true := by kernel_rfl
theorem siz_43 : sizeIs Try.prog 43 1 = true := by kernel_rfl
theorem zero_43 : zeroOf Try.prog 43 = some [.nilFunc] := by kernel_rfl
theorem one_44 : oneOk Try.prog 44 = true := by kernel_rfl
theorem siz_44 : sizeIs Try.prog 44 1 = true := by kernel_rfl
theorem zero_44 : zeroOf Try.prog 44 = some [.nilFunc] := by kernel_rfl
theorem one_45 : oneOk Try.prog 45 = true := by kernel_rfl
theorem siz_45 : sizeIs Try.prog 45 1 = true := by kernel_rfl
theorem zero_45 : zeroOf Try.prog 45 = some [.nilFunc] := by kernel_rfl
theorem one_46 : oneOk Try.prog 46 = true := by kernel_rfl
theorem siz_46 : sizeIs Try.prog 46 1 = true := by kernel_rfl
theorem zero_46 : zeroOf Try.prog 46 = some [.nilFunc] := by kernel_rfl
theorem one_47 : oneOk Try.prog 47 = true := by kernel_rfl
theorem siz_47 : sizeIs Try.prog 47 1 = true := by kernel_rfl
theorem sl_47 : sliceOk Try.prog 47 65 6 = true := by kernel_rfl
theorem el_47 : elemOk Try.prog 47 65 6 64 = true := by kernel_rfl
theorem und_47 : Try.prog.underlying 47 = some (.slice 65) := by kernel_rfl
theorem zero_47 : zeroOf Try.prog 47 = some [.slice none 0 0] := by kernel_rfl
theorem one_48 : oneOk Try.prog 48 = true := by kernel_rfl
theorem siz_48 : sizeIs Try.prog 48 1 = true := by kernel_rfl
theorem sl_48 : sliceOk Try.prog 48 88 2 = true := by kernel_rfl
theorem el_48 : elemOk Try.prog 48 88 2 16 = true := by kernel_rfl
theorem und_48 : Try.prog.underlying 48 = some (.slice 88) := by kernel_rfl
theorem zero_48 : zeroOf Try.prog 48 = some [.slice none 0 0] := by kernel_rfl
theorem one_49 : oneOk Try.prog 49 = true := by kernel_rfl
theorem siz_49 : sizeIs Try.prog 49 1 = true := by kernel_rfl
theorem sl_49 : sliceOk Try.prog 49 91 5 = true := by kernel_rfl
theorem el_49 : elemOk Try.prog 49 91 5 40 = true := by kernel_rfl
theorem und_49 : Try.prog.underlying 49 = some (.slice 91) := by kernel_rfl
theorem zero_49 : zeroOf Try.prog 49 = some [.slice none 0 0] := by kernel_rfl
theorem agg_50 : aggOk Try.prog 50 4 = true := by kernel_rfl
theorem siz_50 : sizeIs Try.prog 50 4 = true := by kernel_rfl
theorem fld_50_0 : fieldOk Try.prog 50 0 0 = true := by kernel_rfl
theorem fld_50_1 : fieldOk Try.prog 50 1 1 = true := by kernel_rfl
theorem fld_50_2 : fieldOk Try.prog 50 2 2 = true := by kernel_rfl
theorem fld_50_3 : fieldOk Try.prog 50 3 3 = true := by kernel_rfl
theorem zero_50 : zeroOf Try.prog 50 = some [.int .i64 0, .slice none 0 0, .slice none 0 0, .slice none 0 0] := by kernel_rfl
theorem plc_50 : placesOf Try.prog 50 = some [(0, 1), (1, 1), (2, 1), (3, 1)] := by kernel_rfl
theorem agg_51 : aggOk Try.prog 51 4 = true := by kernel_rfl
theorem siz_51 : sizeIs Try.prog 51 4 = true := by kernel_rfl
theorem fld_51_0 : fieldOk Try.prog 51 0 0 = true := by kernel_rfl
theorem fld_51_1 : fieldOk Try.prog 51 1 1 = true := by kernel_rfl
theorem fld_51_2 : fieldOk Try.prog 51 2 2 = true := by kernel_rfl
theorem fld_51_3 : fieldOk Try.prog 51 3 3 = true := by kernel_rfl
theorem zero_51 : zeroOf Try.prog 51 = some [.int .i64 0, .slice none 0 0, .slice none 0 0, .slice none 0 0] := by kernel_rfl
theorem plc_51 : placesOf Try.prog 51 = some [(0, 1), (1, 1), (2, 1), (3, 1)] := by kernel_rfl
theorem one_52 : oneOk Try.prog 52 = true := by kernel_rfl
theorem siz_52 : sizeIs Try.prog 52 1 = true := by kernel_rfl
theorem zero_52 : zeroOf Try.prog 52 = some [.nilFunc] := by kernel_rfl
theorem one_53 : oneOk Try.prog 53 = true := by kernel_rfl
theorem siz_53 : sizeIs Try.prog 53 1 = true := by kernel_rfl
theorem zero_53 : zeroOf Try.prog 53 = some [.nilFunc] := by kernel_rfl
theorem one_54 : oneOk Try.prog 54 = true := by kernel_rfl
theorem siz_54 : sizeIs Try.prog 54 1 = true := by kernel_rfl
theorem zero_54 : zeroOf Try.prog 54 = some [.nilFunc] := by kernel_rfl
theorem one_55 : oneOk Try.prog 55 = true := by kernel_rfl
theorem siz_55 : sizeIs Try.prog 55 1 = true := by kernel_rfl
theorem zero_55 : zeroOf Try.prog 55 = some [.nilFunc] := by kernel_rfl
theorem one_57 : oneOk Try.prog 57 = true := by kernel_rfl
theorem siz_57 : sizeIs Try.prog 57 1 = true := by kernel_rfl
theorem zero_57 : zeroOf Try.prog 57 = some [.nilFunc] := by kernel_rfl
theorem one_58 : oneOk Try.prog 58 = true := by kernel_rfl
theorem siz_58 : sizeIs Try.prog 58 1 = true := by kernel_rfl
theorem zero_58 : zeroOf Try.prog 58 = some [.nilFunc] := by kernel_rfl
theorem one_60 : oneOk Try.prog 60 = true := by kernel_rfl
theorem siz_60 : sizeIs Try.prog 60 1 = true := by kernel_rfl
theorem zero_60 : zeroOf Try.prog 60 = some [.nilFunc] := by kernel_rfl
theorem one_61 : oneOk Try.prog 61 = true := by kernel_rfl
theorem siz_61 : sizeIs Try.prog 61 1 = true := by kernel_rfl
theorem zero_61 : zeroOf Try.prog 61 = some [.nilFunc] := by kernel_rfl
theorem one_62 : oneOk Try.prog 62 = true := by kernel_rfl
theorem siz_62 : sizeIs Try.prog 62 1 = true := by kernel_rfl
theorem zero_62 : zeroOf Try.prog 62 = some [.nilFunc] := by kernel_rfl
theorem one_63 : oneOk Try.prog 63 = true := by kernel_rfl
theorem siz_63 : sizeIs Try.prog 63 1 = true := by kernel_rfl
theorem sl_63 : sliceOk Try.prog 63 104 1 = true := by kernel_rfl
theorem el_63 : elemOk Try.prog 63 104 1 4 = true := by kernel_rfl
theorem und_63 : Try.prog.underlying 63 = some (.slice 104) := by kernel_rfl
theorem zero_63 : zeroOf Try.prog 63 = some [.slice none 0 0] := by kernel_rfl
theorem agg_64 : aggOk Try.prog 64 6 = true := by kernel_rfl
theorem siz_64 : sizeIs Try.prog 64 6 = true := by kernel_rfl
theorem fld_64_0 : fieldOk Try.prog 64 0 0 = true := by kernel_rfl
theorem fld_64_1 : fieldOk Try.prog 64 1 1 = true := by kernel_rfl
theorem fld_64_2 : fieldOk Try.prog 64 2 2 = true := by kernel_rfl
theorem fld_64_3 : fieldOk Try.prog 64 3 3 = true := by kernel_rfl
theorem fld_64_4 : fieldOk Try.prog 64 4 4 = true := by kernel_rfl
theorem fld_64_5 : fieldOk Try.prog 64 5 5 = true := by kernel_rfl
theorem zero_64 : zeroOf Try.prog 64 = some [.int .i64 0, .int .i64 0, .int .i64 0, .slice none 0 0, .int .i64 0, .int .i64 0] := by kernel_rfl
theorem plc_64 : placesOf Try.prog 64 = some [(0, 1), (1, 1), (2, 1), (3, 1), (4, 1), (5, 1)] := by kernel_rfl
theorem agg_65 : aggOk Try.prog 65 6 = true := by kernel_rfl
theorem siz_65 : sizeIs Try.prog 65 6 = true := by kernel_rfl
theorem fld_65_0 : fieldOk Try.prog 65 0 0 = true := by kernel_rfl
theorem fld_65_1 : fieldOk Try.prog 65 1 1 = true := by kernel_rfl
theorem fld_65_2 : fieldOk Try.prog 65 2 2 = true := by kernel_rfl
theorem fld_65_3 : fieldOk Try.prog 65 3 3 = true := by kernel_rfl
theorem fld_65_4 : fieldOk Try.prog 65 4 4 = true := by kernel_rfl
theorem fld_65_5 : fieldOk Try.prog 65 5 5 = true := by kernel_rfl
theorem zero_65 : zeroOf Try.prog 65 = some [.int .i64 0, .int .i64 0, .int .i64 0, .slice none 0 0, .int .i64 0, .int .i64 0] := by kernel_rfl
theorem plc_65 : placesOf Try.prog 65 = some [(0, 1), (1, 1), (2, 1), (3, 1), (4, 1), (5, 1)] := by kernel_rfl
theorem one_66 : oneOk Try.prog 66 = true := by kernel_rfl
theorem siz_66 : sizeIs Try.prog 66 1 = true := by kernel_rfl
theorem zero_66 : zeroOf Try.prog 66 = some [.nilFunc] := by kernel_rfl
theorem one_67 : oneOk Try.prog 67 = true := by kernel_rfl
theorem siz_67 : sizeIs Try.prog 67 1 = true := by kernel_rfl
theorem zero_67 : zeroOf Try.prog 67 = some [.nilFunc] := by kernel_rfl
theorem one_68 : oneOk Try.prog 68 = true := by kernel_rfl
theorem siz_68 : sizeIs Try.prog 68 1 = true := by kernel_rfl
theorem zero_68 : zeroOf Try.prog 68 = some [.nilFunc] := by kernel_rfl
theorem one_70 : oneOk Try.prog 70 = true := by kernel_rfl
theorem siz_70 : sizeIs Try.prog 70 1 = true := by kernel_rfl
theorem zero_70 : zeroOf Try.prog 70 = some [.nilFunc] := by kernel_rfl
theorem one_71 : oneOk Try.prog 71 = true := by kernel_rfl
theorem siz_71 : sizeIs Try.prog 71 1 = true := by kernel_rfl
theorem zero_71 : zeroOf Try.prog 71 = some [.nilFunc] := by kernel_rfl
theorem one_72 : oneOk Try.prog 72 = true := by kernel_rfl
theorem siz_72 : sizeIs Try.prog 72 1 = true := by kernel_rfl
theorem zero_72 : zeroOf Try.prog 72 = some [.nilFunc] := by kernel_rfl
theorem one_73 : oneOk Try.prog 73 = true := by kernel_rfl
theorem siz_73 : sizeIs Try.prog 73 1 = true := by kernel_rfl
theorem zero_73 : zeroOf Try.prog 73 = some [.nilFunc] := by kernel_rfl
theorem one_74 : oneOk Try.prog 74 = true := by kernel_rfl
theorem siz_74 : sizeIs Try.prog 74 1 = true := by kernel_rfl
theorem zero_74 : zeroOf Try.prog 74 = some [.nilFunc] := by kernel_rfl
theorem one_75 : oneOk Try.prog 75 = true := by kernel_rfl
theorem siz_75 : sizeIs Try.prog 75 1 = true := by kernel_rfl
theorem zero_75 : zeroOf Try.prog 75 = some [.nilFunc] := by kernel_rfl
theorem one_76 : oneOk Try.prog 76 = true := by kernel_rfl
theorem siz_76 : sizeIs Try.prog 76 1 = true := by kernel_rfl
theorem zero_76 : zeroOf Try.prog 76 = some [.nilFunc] := by kernel_rfl
theorem one_77 : oneOk Try.prog 77 = true := by kernel_rfl
theorem siz_77 : sizeIs Try.prog 77 1 = true := by kernel_rfl
theorem sl_77 : sliceOk Try.prog 77 85 2 = true := by kernel_rfl
theorem el_77 : elemOk Try.prog 77 85 2 16 = true := by kernel_rfl
theorem und_77 : Try.prog.underlying 77 = some (.slice 85) := by kernel_rfl
theorem zero_77 : zeroOf Try.prog 77 = some [.slice none 0 0] := by kernel_rfl
theorem agg_78 : aggOk Try.prog 78 2 = true := by kernel_rfl
theorem siz_78 : sizeIs Try.prog 78 2 = true := by kernel_rfl
theorem fld_78_0 : fieldOk Try.prog 78 0 0 = true := by kernel_rfl
theorem fld_78_1 : fieldOk Try.prog 78 1 1 = true := by kernel_rfl
theorem zero_78 : zeroOf Try.prog 78 = some [.int .i64 0, .slice none 0 0] := by kernel_rfl
theorem plc_78 : placesOf Try.prog 78 = some [(0, 1), (1, 1)] := by kernel_rfl
theorem agg_79 : aggOk Try.prog 79 2 = true := by kernel_rfl
theorem siz_79 : sizeIs Try.prog 79 2 = true := by kernel_rfl
theorem fld_79_0 : fieldOk Try.prog 79 0 0 = true := by kernel_rfl
theorem fld_79_1 : fieldOk Try.prog 79 1 1 = true := by kernel_rfl
theorem zero_79 : zeroOf Try.prog 79 = some [.int .i64 0, .slice none 0 0] := by kernel_rfl
theorem plc_79 : placesOf Try.prog 79 = some [(0, 1), (1, 1)] := by kernel_rfl
theorem one_80 : oneOk Try.prog 80 = true := by kernel_rfl
theorem siz_80 : sizeIs Try.prog 80 1 = true := by kernel_rfl
theorem zero_80 : zeroOf Try.prog 80 = some [.nilFunc] := by kernel_rfl
theorem one_81 : oneOk Try.prog 81 = true := by kernel_rfl
theorem siz_81 : sizeIs Try.prog 81 1 = true := by kernel_rfl
theorem zero_81 : zeroOf Try.prog 81 = some [.nilFunc] := by kernel_rfl
theorem one_82 : oneOk Try.prog 82 = true := by kernel_rfl
theorem siz_82 : sizeIs Try.prog 82 1 = true := by kernel_rfl
theorem zero_82 : zeroOf Try.prog 82 = some [.pointer none] := by kernel_rfl
theorem agg_83 : aggOk Try.prog 83 10 = true := by kernel_rfl
theorem siz_83 : sizeIs Try.prog 83 10 = true := by kernel_rfl
theorem arr_83 : arrOk Try.prog 83 79 2 5 = true := by kernel_rfl
theorem zero_83 : zeroOf Try.prog 83 = some [.int .i64 0, .slice none 0 0, .int .i64 0, .slice none 0 0, .int .i64 0, .slice none 0 0, .int .i64 0, .slice none 0 0, .int .i64 0, .slice none 0 0] := by kernel_rfl
theorem agg_84 : aggOk Try.prog 84 2 = true := by kernel_rfl
theorem siz_84 : sizeIs Try.prog 84 2 = true := by kernel_rfl
theorem fld_84_0 : fieldOk Try.prog 84 0 0 = true := by kernel_rfl
theorem fld_84_1 : fieldOk Try.prog 84 1 1 = true := by kernel_rfl
theorem zero_84 : zeroOf Try.prog 84 = some [.int .i64 0, .nilFunc] := by kernel_rfl
theorem plc_84 : placesOf Try.prog 84 = some [(0, 1), (1, 1)] := by kernel_rfl
theorem agg_85 : aggOk Try.prog 85 2 = true := by kernel_rfl
theorem siz_85 : sizeIs Try.prog 85 2 = true := by kernel_rfl
theorem fld_85_0 : fieldOk Try.prog 85 0 0 = true := by kernel_rfl
theorem fld_85_1 : fieldOk Try.prog 85 1 1 = true := by kernel_rfl
theorem zero_85 : zeroOf Try.prog 85 = some [.int .i64 0, .nilFunc] := by kernel_rfl
theorem plc_85 : placesOf Try.prog 85 = some [(0, 1), (1, 1)] := by kernel_rfl
theorem one_86 : oneOk Try.prog 86 = true := by kernel_rfl
theorem siz_86 : sizeIs Try.prog 86 1 = true := by kernel_rfl
theorem zero_86 : zeroOf Try.prog 86 = some [.nilFunc] := by kernel_rfl
theorem agg_87 : aggOk Try.prog 87 2 = true := by kernel_rfl
theorem siz_87 : sizeIs Try.prog 87 2 = true := by kernel_rfl
theorem fld_87_0 : fieldOk Try.prog 87 0 0 = true := by kernel_rfl
theorem fld_87_1 : fieldOk Try.prog 87 1 1 = true := by kernel_rfl
theorem zero_87 : zeroOf Try.prog 87 = some [.int .i64 0, .int .i64 0] := by kernel_rfl
theorem flat_87 : flatOk Try.prog 87 2 = true := by kernel_rfl
theorem plc_87 : placesOf Try.prog 87 = some [(0, 1), (1, 1)] := by kernel_rfl
theorem agg_88 : aggOk Try.prog 88 2 = true := by kernel_rfl
theorem siz_88 : sizeIs Try.prog 88 2 = true := by kernel_rfl
theorem fld_88_0 : fieldOk Try.prog 88 0 0 = true := by kernel_rfl
theorem fld_88_1 : fieldOk Try.prog 88 1 1 = true := by kernel_rfl
theorem zero_88 : zeroOf Try.prog 88 = some [.int .i64 0, .int .i64 0] := by kernel_rfl
theorem flat_88 : flatOk Try.prog 88 2 = true := by kernel_rfl
theorem plc_88 : placesOf Try.prog 88 = some [(0, 1), (1, 1)] := by kernel_rfl
theorem one_89 : oneOk Try.prog 89 = true := by kernel_rfl
theorem siz_89 : sizeIs Try.prog 89 1 = true := by kernel_rfl
theorem zero_89 : zeroOf Try.prog 89 = some [.nilFunc] := by kernel_rfl
theorem agg_90 : aggOk Try.prog 90 5 = true := by kernel_rfl
theorem siz_90 : sizeIs Try.prog 90 5 = true := by kernel_rfl
theorem fld_90_0 : fieldOk Try.prog 90 0 0 = true := by kernel_rfl
theorem fld_90_1 : fieldOk Try.prog 90 1 1 = true := by kernel_rfl
theorem fld_90_2 : fieldOk Try.prog 90 2 2 = true := by kernel_rfl
theorem fld_90_3 : fieldOk Try.prog 90 3 3 = true := by kernel_rfl
theorem fld_90_4 : fieldOk Try.prog 90 4 4 = true := by kernel_rfl
theorem zero_90 : zeroOf Try.prog 90 = some [.int .i64 0, .int .i64 0, .int .i64 0, .int .i64 0, .int .i64 0] := by kernel_rfl
theorem flat_90 : flatOk Try.prog 90 5 = true := by kernel_rfl
theorem plc_90 : placesOf Try.prog 90 = some [(0, 1), (1, 1), (2, 1), (3, 1), (4, 1)] := by kernel_rfl
theorem agg_91 : aggOk Try.prog 91 5 = true := by kernel_rfl
theorem siz_91 : sizeIs Try.prog 91 5 = true := by kernel_rfl
theorem fld_91_0 : fieldOk Try.prog 91 0 0 = true := by kernel_rfl
theorem fld_91_1 : fieldOk Try.prog 91 1 1 = true := by kernel_rfl
theorem fld_91_2 : fieldOk Try.prog 91 2 2 = true := by kernel_rfl
theorem fld_91_3 : fieldOk Try.prog 91 3 3 = true := by kernel_rfl
theorem fld_91_4 : fieldOk Try.prog 91 4 4 = true := by kernel_rfl
theorem zero_91 : zeroOf Try.prog 91 = some [.int .i64 0, .int .i64 0, .int .i64 0, .int .i64 0, .int .i64 0] := by kernel_rfl
theorem flat_91 : flatOk Try.prog 91 5 = true := by kernel_rfl
theorem plc_91 : placesOf Try.prog 91 = some [(0, 1), (1, 1), (2, 1), (3, 1), (4, 1)] := by kernel_rfl
theorem one_92 : oneOk Try.prog 92 = true := by kernel_rfl
theorem siz_92 : sizeIs Try.prog 92 1 = true := by kernel_rfl
theorem zero_92 : zeroOf Try.prog 92 = some [.nilFunc] := by kernel_rfl
theorem one_93 : oneOk Try.prog 93 = true := by kernel_rfl
theorem siz_93 : sizeIs Try.prog 93 1 = true := by kernel_rfl
theorem zero_93 : zeroOf Try.prog 93 = some [.nilFunc] := by kernel_rfl
theorem one_94 : oneOk Try.prog 94 = true := by kernel_rfl
theorem siz_94 : sizeIs Try.prog 94 1 = true := by kernel_rfl
theorem zero_94 : zeroOf Try.prog 94 = some [.nilFunc] := by kernel_rfl
theorem one_95 : oneOk Try.prog 95 = true := by kernel_rfl
theorem siz_95 : sizeIs Try.prog 95 1 = true := by kernel_rfl
theorem zero_95 : zeroOf Try.prog 95 = some [.nilFunc] := by kernel_rfl
theorem one_96 : oneOk Try.prog 96 = true := by kernel_rfl
theorem siz_96 : sizeIs Try.prog 96 1 = true := by kernel_rfl
theorem zero_96 : zeroOf Try.prog 96 = some [.nilFunc] := by kernel_rfl
theorem one_97 : oneOk Try.prog 97 = true := by kernel_rfl
theorem siz_97 : sizeIs Try.prog 97 1 = true := by kernel_rfl
theorem zero_97 : zeroOf Try.prog 97 = some [.nilFunc] := by kernel_rfl
theorem agg_98 : aggOk Try.prog 98 4 = true := by kernel_rfl
theorem siz_98 : sizeIs Try.prog 98 4 = true := by kernel_rfl
theorem fld_98_0 : fieldOk Try.prog 98 0 0 = true := by kernel_rfl
theorem fld_98_1 : fieldOk Try.prog 98 1 1 = true := by kernel_rfl
theorem fld_98_2 : fieldOk Try.prog 98 2 2 = true := by kernel_rfl
theorem fld_98_3 : fieldOk Try.prog 98 3 3 = true := by kernel_rfl
theorem zero_98 : zeroOf Try.prog 98 = some [.pointer none, .pointer none, .pointer none, .string ⟨#[]⟩] := by kernel_rfl
theorem plc_98 : placesOf Try.prog 98 = some [(0, 1), (1, 1), (2, 1), (3, 1)] := by kernel_rfl
theorem agg_99 : aggOk Try.prog 99 4 = true := by kernel_rfl
theorem siz_99 : sizeIs Try.prog 99 4 = true := by kernel_rfl
theorem fld_99_0 : fieldOk Try.prog 99 0 0 = true := by kernel_rfl
theorem fld_99_1 : fieldOk Try.prog 99 1 1 = true := by kernel_rfl
theorem fld_99_2 : fieldOk Try.prog 99 2 2 = true := by kernel_rfl
theorem fld_99_3 : fieldOk Try.prog 99 3 3 = true := by kernel_rfl
theorem zero_99 : zeroOf Try.prog 99 = some [.pointer none, .pointer none, .pointer none, .string ⟨#[]⟩] := by kernel_rfl
theorem plc_99 : placesOf Try.prog 99 = some [(0, 1), (1, 1), (2, 1), (3, 1)] := by kernel_rfl
theorem agg_100 : aggOk Try.prog 100 0 = true := by kernel_rfl
theorem siz_100 : sizeIs Try.prog 100 0 = true := by kernel_rfl
theorem arr_100 : arrOk Try.prog 100 16 1 0 = true := by kernel_rfl
theorem zero_100 : zeroOf Try.prog 100 = some [] := by kernel_rfl
theorem agg_101 : aggOk Try.prog 101 0 = true := by kernel_rfl
theorem siz_101 : sizeIs Try.prog 101 0 = true := by kernel_rfl
theorem zero_101 : zeroOf Try.prog 101 = some [] := by kernel_rfl
theorem plc_101 : placesOf Try.prog 101 = some [(0, 0)] := by kernel_rfl
theorem agg_102 : aggOk Try.prog 102 0 = true := by kernel_rfl
theorem siz_102 : sizeIs Try.prog 102 0 = true := by kernel_rfl
theorem zero_102 : zeroOf Try.prog 102 = some [] := by kernel_rfl
theorem plc_102 : placesOf Try.prog 102 = some [(0, 0)] := by kernel_rfl
theorem one_103 : oneOk Try.prog 103 = true := by kernel_rfl
theorem siz_103 : sizeIs Try.prog 103 1 = true := by kernel_rfl
theorem zero_103 : zeroOf Try.prog 103 = some [.nilFunc] := by kernel_rfl
theorem one_104 : oneOk Try.prog 104 = true := by kernel_rfl
theorem siz_104 : sizeIs Try.prog 104 1 = true := by kernel_rfl
theorem zero_104 : zeroOf Try.prog 104 = some [.int .u32 0] := by kernel_rfl
theorem one_105 : oneOk Try.prog 105 = true := by kernel_rfl
theorem siz_105 : sizeIs Try.prog 105 1 = true := by kernel_rfl
theorem zero_105 : zeroOf Try.prog 105 = some [.int .u8 0] := by kernel_rfl
theorem one_106 : oneOk Try.prog 106 = true := by kernel_rfl
theorem siz_106 : sizeIs Try.prog 106 1 = true := by kernel_rfl
theorem zero_106 : zeroOf Try.prog 106 = some [.int .u8 0] := by kernel_rfl
theorem one_107 : oneOk Try.prog 107 = true := by kernel_rfl
theorem siz_107 : sizeIs Try.prog 107 1 = true := by kernel_rfl
theorem zero_107 : zeroOf Try.prog 107 = some [.nilFunc] := by kernel_rfl
theorem one_108 : oneOk Try.prog 108 = true := by kernel_rfl
theorem siz_108 : sizeIs Try.prog 108 1 = true := by kernel_rfl
theorem zero_108 : zeroOf Try.prog 108 = some [.pointer none] := by kernel_rfl
theorem one_109 : oneOk Try.prog 109 = true := by kernel_rfl
theorem siz_109 : sizeIs Try.prog 109 1 = true := by kernel_rfl
theorem zero_109 : zeroOf Try.prog 109 = some [.int .i32 0] := by kernel_rfl
theorem one_110 : oneOk Try.prog 110 = true := by kernel_rfl
theorem siz_110 : sizeIs Try.prog 110 1 = true := by kernel_rfl
theorem zero_110 : zeroOf Try.prog 110 = some [.int .i32 0] := by kernel_rfl
theorem agg_111 : aggOk Try.prog 111 11 = true := by kernel_rfl
theorem siz_111 : sizeIs Try.prog 111 11 = true := by kernel_rfl
theorem fld_111_0 : fieldOk Try.prog 111 0 0 = true := by kernel_rfl
theorem fld_111_1 : fieldOk Try.prog 111 1 1 = true := by kernel_rfl
theorem fld_111_2 : fieldOk Try.prog 111 2 2 = true := by kernel_rfl
theorem fld_111_3 : fieldOk Try.prog 111 3 3 = true := by kernel_rfl
theorem fld_111_4 : fieldOk Try.prog 111 4 4 = true := by kernel_rfl
theorem fld_111_5 : fieldOk Try.prog 111 5 5 = true := by kernel_rfl
theorem fld_111_6 : fieldOk Try.prog 111 6 6 = true := by kernel_rfl
theorem fld_111_7 : fieldOk Try.prog 111 7 7 = true := by kernel_rfl
theorem fld_111_8 : fieldOk Try.prog 111 8 8 = true := by kernel_rfl
theorem fld_111_9 : fieldOk Try.prog 111 9 9 = true := by kernel_rfl
theorem fld_111_10 : fieldOk Try.prog 111 10 10 = true := by kernel_rfl
theorem zero_111 : zeroOf Try.prog 111 = some [.int .u64 0, .int .u64 0, .int .u32 0, .int .u8 0, .int .u8 0, .int .u8 0, .int .u8 0, .nilFunc, .pointer none, .int .i32 0, .int .i32 0] := by kernel_rfl
theorem plc_111 : placesOf Try.prog 111 = some [(0, 1), (1, 1), (2, 1), (3, 1), (4, 1), (5, 1), (6, 1), (7, 1), (8, 1), (9, 1), (10, 1)] := by kernel_rfl
theorem agg_112 : aggOk Try.prog 112 11 = true := by kernel_rfl
theorem siz_112 : sizeIs Try.prog 112 11 = true := by kernel_rfl
theorem fld_112_0 : fieldOk Try.prog 112 0 0 = true := by kernel_rfl
theorem fld_112_1 : fieldOk Try.prog 112 1 1 = true := by kernel_rfl
theorem fld_112_2 : fieldOk Try.prog 112 2 2 = true := by kernel_rfl
theorem fld_112_3 : fieldOk Try.prog 112 3 3 = true := by kernel_rfl
theorem fld_112_4 : fieldOk Try.prog 112 4 4 = true := by kernel_rfl
theorem fld_112_5 : fieldOk Try.prog 112 5 5 = true := by kernel_rfl
theorem fld_112_6 : fieldOk Try.prog 112 6 6 = true := by kernel_rfl
theorem fld_112_7 : fieldOk Try.prog 112 7 7 = true := by kernel_rfl
theorem fld_112_8 : fieldOk Try.prog 112 8 8 = true := by kernel_rfl
theorem fld_112_9 : fieldOk Try.prog 112 9 9 = true := by kernel_rfl
theorem fld_112_10 : fieldOk Try.prog 112 10 10 = true := by kernel_rfl
theorem zero_112 : zeroOf Try.prog 112 = some [.int .u64 0, .int .u64 0, .int .u32 0, .int .u8 0, .int .u8 0, .int .u8 0, .int .u8 0, .nilFunc, .pointer none, .int .i32 0, .int .i32 0] := by kernel_rfl
theorem plc_112 : placesOf Try.prog 112 = some [(0, 1), (1, 1), (2, 1), (3, 1), (4, 1), (5, 1), (6, 1), (7, 1), (8, 1), (9, 1), (10, 1)] := by kernel_rfl
theorem one_113 : oneOk Try.prog 113 = true := by kernel_rfl
theorem siz_113 : sizeIs Try.prog 113 1 = true := by kernel_rfl
theorem ent_3 (args : Array Value) (w : World) : (callFunc 3 args).run Try.prog w = .ok (.enter 3 args) w := callFunc_enter Try.func3 rfl (by decide) args w
theorem ent_4 (args : Array Value) (w : World) : (callFunc 4 args).run Try.prog w = .ok (.enter 4 args) w := callFunc_enter Try.func4 rfl (by decide) args w
theorem ent_5 (args : Array Value) (w : World) : (callFunc 5 args).run Try.prog w = .ok (.enter 5 args) w := callFunc_enter Try.func5 rfl (by decide) args w
theorem ent_6 (args : Array Value) (w : World) : (callFunc 6 args).run Try.prog w = .ok (.enter 6 args) w := callFunc_enter Try.func6 rfl (by decide) args w
theorem ent_7 (args : Array Value) (w : World) : (callFunc 7 args).run Try.prog w = .ok (.enter 7 args) w := callFunc_enter Try.func7 rfl (by decide) args w
theorem ent_8 (args : Array Value) (w : World) : (callFunc 8 args).run Try.prog w = .ok (.enter 8 args) w := callFunc_enter Try.func8 rfl (by decide) args w
theorem ent_9 (args : Array Value) (w : World) : (callFunc 9 args).run Try.prog w = .ok (.enter 9 args) w := callFunc_enter Try.func9 rfl (by decide) args w
theorem ent_10 (args : Array Value) (w : World) : (callFunc 10 args).run Try.prog w = .ok (.enter 10 args) w := callFunc_enter Try.func10 rfl (by decide) args w
theorem ent_11 (args : Array Value) (w : World) : (callFunc 11 args).run Try.prog w = .ok (.enter 11 args) w := callFunc_enter Try.func11 rfl (by decide) args w
theorem ent_12 (args : Array Value) (w : World) : (callFunc 12 args).run Try.prog w = .ok (.enter 12 args) w := callFunc_enter Try.func12 rfl (by decide) args w
theorem ent_13 (args : Array Value) (w : World) : (callFunc 13 args).run Try.prog w = .ok (.enter 13 args) w := callFunc_enter Try.func13 rfl (by decide) args w
theorem ent_14 (args : Array Value) (w : World) : (callFunc 14 args).run Try.prog w = .ok (.enter 14 args) w := callFunc_enter Try.func14 rfl (by decide) args w
theorem ent_15 (args : Array Value) (w : World) : (callFunc 15 args).run Try.prog w = .ok (.enter 15 args) w := callFunc_enter Try.func15 rfl (by decide) args w
theorem ent_16 (args : Array Value) (w : World) : (callFunc 16 args).run Try.prog w = .ok (.enter 16 args) w := callFunc_enter Try.func16 rfl (by decide) args w
theorem ent_17 (args : Array Value) (w : World) : (callFunc 17 args).run Try.prog w = .ok (.enter 17 args) w := callFunc_enter Try.func17 rfl (by decide) args w
theorem ent_18 (args : Array Value) (w : World) : (callFunc 18 args).run Try.prog w = .ok (.enter 18 args) w := callFunc_enter Try.func18 rfl (by decide) args w
theorem ent_19 (args : Array Value) (w : World) : (callFunc 19 args).run Try.prog w = .ok (.enter 19 args) w := callFunc_enter Try.func19 rfl (by decide) args w
theorem ent_20 (args : Array Value) (w : World) : (callFunc 20 args).run Try.prog w = .ok (.enter 20 args) w := callFunc_enter Try.func20 rfl (by decide) args w
theorem ent_21 (args : Array Value) (w : World) : (callFunc 21 args).run Try.prog w = .ok (.enter 21 args) w := callFunc_enter Try.func21 rfl (by decide) args w
theorem ent_22 (args : Array Value) (w : World) : (callFunc 22 args).run Try.prog w = .ok (.enter 22 args) w := callFunc_enter Try.func22 rfl (by decide) args w
theorem ent_23 (args : Array Value) (w : World) : (callFunc 23 args).run Try.prog w = .ok (.enter 23 args) w := callFunc_enter Try.func23 rfl (by decide) args w
theorem ent_24 (args : Array Value) (w : World) : (callFunc 24 args).run Try.prog w = .ok (.enter 24 args) w := callFunc_enter Try.func24 rfl (by decide) args w
theorem ent_25 (args : Array Value) (w : World) : (callFunc 25 args).run Try.prog w = .ok (.enter 25 args) w := callFunc_enter Try.func25 rfl (by decide) args w
theorem ent_26 (args : Array Value) (w : World) : (callFunc 26 args).run Try.prog w = .ok (.enter 26 args) w := callFunc_enter Try.func26 rfl (by decide) args w
theorem ent_27 (args : Array Value) (w : World) : (callFunc 27 args).run Try.prog w = .ok (.enter 27 args) w := callFunc_enter Try.func27 rfl (by decide) args w
theorem ent_28 (args : Array Value) (w : World) : (callFunc 28 args).run Try.prog w = .ok (.enter 28 args) w := callFunc_enter Try.func28 rfl (by decide) args w
theorem ent_29 (args : Array Value) (w : World) : (callFunc 29 args).run Try.prog w = .ok (.enter 29 args) w := callFunc_enter Try.func29 rfl (by decide) args w
theorem ent_30 (args : Array Value) (w : World) : (callFunc 30 args).run Try.prog w = .ok (.enter 30 args) w := callFunc_enter Try.func30 rfl (by decide) args w
theorem ent_31 (args : Array Value) (w : World) : (callFunc 31 args).run Try.prog w = .ok (.enter 31 args) w := callFunc_enter Try.func31 rfl (by decide) args w
theorem ent_32 (args : Array Value) (w : World) : (callFunc 32 args).run Try.prog w = .ok (.enter 32 args) w := callFunc_enter Try.func32 rfl (by decide) args w
theorem ent_33 (args : Array Value) (w : World) : (callFunc 33 args).run Try.prog w = .ok (.enter 33 args) w := callFunc_enter Try.func33 rfl (by decide) args w
theorem ent_34 (args : Array Value) (w : World) : (callFunc 34 args).run Try.prog w = .ok (.enter 34 args) w := callFunc_enter Try.func34 rfl (by decide) args w
theorem ent_35 (args : Array Value) (w : World) : (callFunc 35 args).run Try.prog w = .ok (.enter 35 args) w := callFunc_enter Try.func35 rfl (by decide) args w
theorem ent_36 (args : Array Value) (w : World) : (callFunc 36 args).run Try.prog w = .ok (.enter 36 args) w := callFunc_enter Try.func36 rfl (by decide) args w
theorem ent_37 (args : Array Value) (w : World) : (callFunc 37 args).run Try.prog w = .ok (.enter 37 args) w := callFunc_enter Try.func37 rfl (by decide) args w
theorem ent_38 (args : Array Value) (w : World) : (callFunc 38 args).run Try.prog w = .ok (.enter 38 args) w := callFunc_enter Try.func38 rfl (by decide) args w
theorem ent_39 (args : Array Value) (w : World) : (callFunc 39 args).run Try.prog w = .ok (.enter 39 args) w := callFunc_enter Try.func39 rfl (by decide) args w
theorem ent_40 (args : Array Value) (w : World) : (callFunc 40 args).run Try.prog w = .ok (.enter 40 args) w := callFunc_enter Try.func40 rfl (by decide) args w
theorem ent_41 (args : Array Value) (w : World) : (callFunc 41 args).run Try.prog w = .ok (.enter 41 args) w := callFunc_enter Try.func41 rfl (by decide) args w
theorem ent_42 (args : Array Value) (w : World) : (callFunc 42 args).run Try.prog w = .ok (.enter 42 args) w := callFunc_enter Try.func42 rfl (by decide) args w
theorem ent_43 (args : Array Value) (w : World) : (callFunc 43 args).run Try.prog w = .ok (.enter 43 args) w := callFunc_enter Try.func43 rfl (by decide) args w
theorem ent_44 (args : Array Value) (w : World) : (callFunc 44 args).run Try.prog w = .ok (.enter 44 args) w := callFunc_enter Try.func44 rfl (by decide) args w
theorem ent_45 (args : Array Value) (w : World) : (callFunc 45 args).run Try.prog w = .ok (.enter 45 args) w := callFunc_enter Try.func45 rfl (by decide) args w
theorem ent_46 (args : Array Value) (w : World) : (callFunc 46 args).run Try.prog w = .ok (.enter 46 args) w := callFunc_enter Try.func46 rfl (by decide) args w
theorem ent_47 (args : Array Value) (w : World) : (callFunc 47 args).run Try.prog w = .ok (.enter 47 args) w := callFunc_enter Try.func47 rfl (by decide) args w
theorem ent_48 (args : Array Value) (w : World) : (callFunc 48 args).run Try.prog w = .ok (.enter 48 args) w := callFunc_enter Try.func48 rfl (by decide) args w
theorem ent_49 (args : Array Value) (w : World) : (callFunc 49 args).run Try.prog w = .ok (.enter 49 args) w := callFunc_enter Try.func49 rfl (by decide) args w
theorem ent_50 (args : Array Value) (w : World) : (callFunc 50 args).run Try.prog w = .ok (.enter 50 args) w := callFunc_enter Try.func50 rfl (by decide) args w
theorem ent_51 (args : Array Value) (w : World) : (callFunc 51 args).run Try.prog w = .ok (.enter 51 args) w := callFunc_enter Try.func51 rfl (by decide) args w
theorem ent_52 (args : Array Value) (w : World) : (callFunc 52 args).run Try.prog w = .ok (.enter 52 args) w := callFunc_enter Try.func52 rfl (by decide) args w
theorem ent_53 (args : Array Value) (w : World) : (callFunc 53 args).run Try.prog w = .ok (.enter 53 args) w := callFunc_enter Try.func53 rfl (by decide) args w
theorem ent_54 (args : Array Value) (w : World) : (callFunc 54 args).run Try.prog w = .ok (.enter 54 args) w := callFunc_enter Try.func54 rfl (by decide) args w
theorem ent_55 (args : Array Value) (w : World) : (callFunc 55 args).run Try.prog w = .ok (.enter 55 args) w := callFunc_enter Try.func55 rfl (by decide) args w
theorem ent_56 (args : Array Value) (w : World) : (callFunc 56 args).run Try.prog w = .ok (.enter 56 args) w := callFunc_enter Try.func56 rfl (by decide) args w
theorem ent_57 (args : Array Value) (w : World) : (callFunc 57 args).run Try.prog w = .ok (.enter 57 args) w := callFunc_enter Try.func57 rfl (by decide) args w
theorem ent_58 (args : Array Value) (w : World) : (callFunc 58 args).run Try.prog w = .ok (.enter 58 args) w := callFunc_enter Try.func58 rfl (by decide) args w
theorem ent_59 (args : Array Value) (w : World) : (callFunc 59 args).run Try.prog w = .ok (.enter 59 args) w := callFunc_enter Try.func59 rfl (by decide) args w
theorem ent_60 (args : Array Value) (w : World) : (callFunc 60 args).run Try.prog w = .ok (.enter 60 args) w := callFunc_enter Try.func60 rfl (by decide) args w
theorem ent_61 (args : Array Value) (w : World) : (callFunc 61 args).run Try.prog w = .ok (.enter 61 args) w := callFunc_enter Try.func61 rfl (by decide) args w
theorem ent_62 (args : Array Value) (w : World) : (callFunc 62 args).run Try.prog w = .ok (.enter 62 args) w := callFunc_enter Try.func62 rfl (by decide) args w
theorem ent_63 (args : Array Value) (w : World) : (callFunc 63 args).run Try.prog w = .ok (.enter 63 args) w := callFunc_enter Try.func63 rfl (by decide) args w
theorem ent_64 (args : Array Value) (w : World) : (callFunc 64 args).run Try.prog w = .ok (.enter 64 args) w := callFunc_enter Try.func64 rfl (by decide) args w
theorem ent_65 (args : Array Value) (w : World) : (callFunc 65 args).run Try.prog w = .ok (.enter 65 args) w := callFunc_enter Try.func65 rfl (by decide) args w
theorem ent_66 (args : Array Value) (w : World) : (callFunc 66 args).run Try.prog w = .ok (.enter 66 args) w := callFunc_enter Try.func66 rfl (by decide) args w
theorem ent_67 (args : Array Value) (w : World) : (callFunc 67 args).run Try.prog w = .ok (.enter 67 args) w := callFunc_enter Try.func67 rfl (by decide) args w
end Go.Proofs.Ytiedmigdgelhkaa


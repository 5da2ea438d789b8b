/- Facts on the types of the program, each asked of its table by the kernel. Laid by program. -/
import Derived.Test.YthfelkjklnhdiaaOps
import Derived.Test.YthfelkjklnhdiaaOps2
import Derived.Test.YthfelkjklnhdiaaMem
import Derived.Test.YthfelkjklnhdiaaEq
import Derived.Test.YthfelkjklnhdiaaOps4
import Derived.Test.YthfelkjklnhdiaaProg
import Derived.KernelRfl
namespace Go.Proofs.Ythfelkjklnhdiaa
open Go Go.RowKit Bx Go.Proofs
theorem mixed : Try.prog.follows .mixedOrders = true := by kernel_rfl
theorem one_1 : oneOk Try.prog 1 = true := by kernel_rfl
theorem siz_1 : sizeIs Try.prog 1 1 = true := by kernel_rfl
theorem zero_1 : zeroOf Try.prog 1 = some [.nilFunc] := by kernel_rfl
theorem one_2 : oneOk Try.prog 2 = true := by kernel_rfl
theorem siz_2 : sizeIs Try.prog 2 1 = true := by kernel_rfl
theorem zero_2 : zeroOf Try.prog 2 = some [.int .i64 0] := by kernel_rfl
theorem one_3 : oneOk Try.prog 3 = true := by kernel_rfl
theorem siz_3 : sizeIs Try.prog 3 1 = true := by kernel_rfl
theorem zero_3 : zeroOf Try.prog 3 = some [.int .i64 0] := by kernel_rfl
theorem one_4 : oneOk Try.prog 4 = true := by kernel_rfl
theorem siz_4 : sizeIs Try.prog 4 1 = true := by kernel_rfl
theorem zero_4 : zeroOf Try.prog 4 = some [.bool false] := by kernel_rfl
theorem one_5 : oneOk Try.prog 5 = true := by kernel_rfl
theorem siz_5 : sizeIs Try.prog 5 1 = true := by kernel_rfl
theorem zero_5 : zeroOf Try.prog 5 = some [.int .u8 0] := by kernel_rfl
theorem one_6 : oneOk Try.prog 6 = true := by kernel_rfl
theorem siz_6 : sizeIs Try.prog 6 1 = true := by kernel_rfl
theorem zero_6 : zeroOf Try.prog 6 = some [.int .u8 0] := by kernel_rfl
theorem agg_7 : aggOk Try.prog 7 4 = true := by kernel_rfl
theorem siz_7 : sizeIs Try.prog 7 4 = true := by kernel_rfl
theorem fld_7_0 : fieldOk Try.prog 7 0 0 = true := by kernel_rfl
theorem fld_7_1 : fieldOk Try.prog 7 1 1 = true := by kernel_rfl
theorem fld_7_2 : fieldOk Try.prog 7 2 2 = true := by kernel_rfl
theorem fld_7_3 : fieldOk Try.prog 7 3 3 = true := by kernel_rfl
theorem zero_7 : zeroOf Try.prog 7 = some [.int .i64 0, .int .i64 0, .bool false, .int .u8 0] := by kernel_rfl
theorem plc_7 : placesOf Try.prog 7 = some [(0, 1), (1, 1), (2, 1), (3, 1)] := by kernel_rfl
theorem agg_8 : aggOk Try.prog 8 4 = true := by kernel_rfl
theorem siz_8 : sizeIs Try.prog 8 4 = true := by kernel_rfl
theorem fld_8_0 : fieldOk Try.prog 8 0 0 = true := by kernel_rfl
theorem fld_8_1 : fieldOk Try.prog 8 1 1 = true := by kernel_rfl
theorem fld_8_2 : fieldOk Try.prog 8 2 2 = true := by kernel_rfl
theorem fld_8_3 : fieldOk Try.prog 8 3 3 = true := by kernel_rfl
theorem zero_8 : zeroOf Try.prog 8 = some [.int .i64 0, .int .i64 0, .bool false, .int .u8 0] := by kernel_rfl
theorem plc_8 : placesOf Try.prog 8 = some [(0, 1), (1, 1), (2, 1), (3, 1)] := by kernel_rfl
theorem one_9 : oneOk Try.prog 9 = true := by kernel_rfl
theorem siz_9 : sizeIs Try.prog 9 1 = true := by kernel_rfl
theorem und_9 : Try.prog.underlying 9 = some .string := by kernel_rfl
theorem zero_9 : zeroOf Try.prog 9 = some [.string ⟨#[]⟩] := by kernel_rfl
theorem one_10 : oneOk Try.prog 10 = true := by kernel_rfl
theorem siz_10 : sizeIs Try.prog 10 1 = true := by kernel_rfl
theorem und_10 : Try.prog.underlying 10 = some .string := by kernel_rfl
theorem zero_10 : zeroOf Try.prog 10 = some [.string ⟨#[]⟩] := by kernel_rfl
theorem one_11 : oneOk Try.prog 11 = true := by kernel_rfl
theorem siz_11 : sizeIs Try.prog 11 1 = true := by kernel_rfl
theorem und_11 : Try.prog.underlying 11 = some .string := by kernel_rfl
theorem zero_11 : zeroOf Try.prog 11 = some [.string ⟨#[]⟩] := by kernel_rfl
theorem one_12 : oneOk Try.prog 12 = true := by kernel_rfl
theorem siz_12 : sizeIs Try.prog 12 1 = true := by kernel_rfl
theorem zero_12 : zeroOf Try.prog 12 = some [.int .u64 0] := by kernel_rfl
theorem agg_13 : aggOk Try.prog 13 2 = true := by kernel_rfl
theorem siz_13 : sizeIs Try.prog 13 2 = true := by kernel_rfl
theorem fld_13_0 : fieldOk Try.prog 13 0 0 = true := by kernel_rfl
theorem fld_13_1 : fieldOk Try.prog 13 1 1 = true := by kernel_rfl
theorem zero_13 : zeroOf Try.prog 13 = some [.string ⟨#[]⟩, .int .u64 0] := by kernel_rfl
theorem plc_13 : placesOf Try.prog 13 = some [(0, 1), (1, 1)] := by kernel_rfl
theorem agg_14 : aggOk Try.prog 14 2 = true := by kernel_rfl
theorem siz_14 : sizeIs Try.prog 14 2 = true := by kernel_rfl
theorem fld_14_0 : fieldOk Try.prog 14 0 0 = true := by kernel_rfl
theorem fld_14_1 : fieldOk Try.prog 14 1 1 = true := by kernel_rfl
theorem zero_14 : zeroOf Try.prog 14 = some [.string ⟨#[]⟩, .int .u64 0] := by kernel_rfl
theorem plc_14 : placesOf Try.prog 14 = some [(0, 1), (1, 1)] := by kernel_rfl
theorem one_15 : oneOk Try.prog 15 = true := by kernel_rfl
theorem siz_15 : sizeIs Try.prog 15 1 = true := by kernel_rfl
theorem und_15 : Try.prog.underlying 15 = some (.pointer 127) := by kernel_rfl
theorem zero_15 : zeroOf Try.prog 15 = some [.pointer none] := by kernel_rfl
theorem one_16 : oneOk Try.prog 16 = true := by kernel_rfl
theorem siz_16 : sizeIs Try.prog 16 1 = true := by kernel_rfl
theorem und_16 : Try.prog.underlying 16 = some (.pointer 130) := by kernel_rfl
theorem zero_16 : zeroOf Try.prog 16 = some [.pointer none] := by kernel_rfl
theorem one_17 : oneOk Try.prog 17 = true := by kernel_rfl
theorem siz_17 : sizeIs Try.prog 17 1 = true := by kernel_rfl
theorem und_17 : Try.prog.underlying 17 = some (.pointer 137) := by kernel_rfl
theorem zero_17 : zeroOf Try.prog 17 = some [.pointer none] := by kernel_rfl
theorem agg_18 : aggOk Try.prog 18 1 = true := by kernel_rfl
theorem siz_18 : sizeIs Try.prog 18 1 = true := by kernel_rfl
theorem fld_18_0 : fieldOk Try.prog 18 0 0 = true := by kernel_rfl
theorem zero_18 : zeroOf Try.prog 18 = some [.pointer none] := by kernel_rfl
theorem plc_18 : placesOf Try.prog 18 = some [(0, 1)] := by kernel_rfl
theorem agg_19 : aggOk Try.prog 19 1 = true := by kernel_rfl
theorem siz_19 : sizeIs Try.prog 19 1 = true := by kernel_rfl
theorem fld_19_0 : fieldOk Try.prog 19 0 0 = true := by kernel_rfl
theorem zero_19 : zeroOf Try.prog 19 = some [.pointer none] := by kernel_rfl
theorem plc_19 : placesOf Try.prog 19 = some [(0, 1)] := by kernel_rfl
theorem one_20 : oneOk Try.prog 20 = true := by kernel_rfl
theorem siz_20 : sizeIs Try.prog 20 1 = true := by kernel_rfl
theorem zero_20 : zeroOf Try.prog 20 = some [.nilIface] := by kernel_rfl
theorem one_21 : oneOk Try.prog 21 = true := by kernel_rfl
theorem siz_21 : sizeIs Try.prog 21 1 = true := by kernel_rfl
theorem zero_21 : zeroOf Try.prog 21 = some [.int .i32 0] := by kernel_rfl
theorem one_22 : oneOk Try.prog 22 = true := by kernel_rfl
theorem siz_22 : sizeIs Try.prog 22 1 = true := by kernel_rfl
theorem und_22 : Try.prog.underlying 22 = some (.pointer 59) := by kernel_rfl
theorem zero_22 : zeroOf Try.prog 22 = some [.pointer none] := by kernel_rfl
theorem one_23 : oneOk Try.prog 23 = true := by kernel_rfl
theorem siz_23 : sizeIs Try.prog 23 1 = true := by kernel_rfl
theorem zero_23 : zeroOf Try.prog 23 = some [.int .i64 0] := by kernel_rfl
theorem one_25 : oneOk Try.prog 25 = true := by kernel_rfl
theorem siz_25 : sizeIs Try.prog 25 1 = true := by kernel_rfl
theorem zero_25 : zeroOf Try.prog 25 = some [.nilFunc] := by kernel_rfl
theorem one_26 : oneOk Try.prog 26 = true := by kernel_rfl
theorem siz_26 : sizeIs Try.prog 26 1 = true := by kernel_rfl
theorem und_26 : Try.prog.underlying 26 = some (.pointer 63) := by kernel_rfl
theorem zero_26 : zeroOf Try.prog 26 = some [.pointer none] := by kernel_rfl
theorem one_28 : oneOk Try.prog 28 = true := by kernel_rfl
theorem siz_28 : sizeIs Try.prog 28 1 = true := by kernel_rfl
theorem zero_28 : zeroOf Try.prog 28 = some [.nilFunc] := by kernel_rfl
theorem one_29 : oneOk Try.prog 29 = true := by kernel_rfl
theorem siz_29 : sizeIs Try.prog 29 1 = true := by kernel_rfl
theorem zero_29 : zeroOf Try.prog 29 = some [.nilFunc] := by kernel_rfl
theorem one_30 : oneOk Try.prog 30 = true := by kernel_rfl
theorem siz_30 : sizeIs Try.prog 30 1 = true := by kernel_rfl
theorem zero_30 : zeroOf Try.prog 30 = some [.nilFunc] := by kernel_rfl
theorem one_31 : oneOk Try.prog 31 = true := by kernel_rfl
theorem siz_31 : sizeIs Try.prog 31 1 = true := by kernel_rfl
theorem zero_31 : zeroOf Try.prog 31 = some [.nilFunc] := by kernel_rfl
theorem one_32 : oneOk Try.prog 32 = true := by kernel_rfl
theorem siz_32 : sizeIs Try.prog 32 1 = true := by kernel_rfl
theorem zero_32 : zeroOf Try.prog 32 = some [.nilFunc] := by kernel_rfl
theorem one_34 : oneOk Try.prog 34 = true := by kernel_rfl
theorem siz_34 : sizeIs Try.prog 34 1 = true := by kernel_rfl
theorem zero_34 : zeroOf Try.prog 34 = some [.nilFunc] := by kernel_rfl
theorem one_35 : oneOk Try.prog 35 = true := by kernel_rfl
theorem siz_35 : sizeIs Try.prog 35 1 = true := by kernel_rfl
theorem zero_35 : zeroOf Try.prog 35 = some [.nilFunc] := by kernel_rfl
theorem one_36 : oneOk Try.prog 36 = true := by kernel_rfl
theorem siz_36 : sizeIs Try.prog 36 1 = true := by kernel_rfl
theorem zero_36 : zeroOf Try.prog 36 = some [.nilFunc] := by kernel_rfl
theorem one_37 : oneOk Try.prog 37 = true := by kernel_rfl
theorem siz_37 : sizeIs Try.prog 37 1 = true := by kernel_rfl
theorem zero_37 : zeroOf Try.prog 37 = some [.nilFunc] := by kernel_rfl
theorem one_38 : oneOk Try.prog 38 = true := by kernel_rfl
theorem siz_38 : sizeIs Try.prog 38 1 = true := by kernel_rfl
theorem sl_38 : sliceOk Try.prog 38 5 1 = true := by kernel_rfl
theorem el_38 : elemOk Try.prog 38 5 1 1 = true := by kernel_rfl
theorem und_38 : Try.prog.underlying 38 = some (.slice 5) := by kernel_rfl
theorem zero_38 : zeroOf Try.prog 38 = some [.slice none 0 0] := by kernel_rfl
theorem one_39 : oneOk Try.prog 39 = true := by kernel_rfl
theorem siz_39 : sizeIs Try.prog 39 1 = true := by kernel_rfl
theorem zero_39 : zeroOf Try.prog 39 = some [.nilFunc] := by kernel_rfl
theorem one_40 : oneOk Try.prog 40 = true := by kernel_rfl
theorem siz_40 : sizeIs Try.prog 40 1 = true := by kernel_rfl
theorem zero_40 : zeroOf Try.prog 40 = some [.nilFunc] := by kernel_rfl
theorem one_41 : oneOk Try.prog 41 = true := by kernel_rfl
theorem siz_41 : sizeIs Try.prog 41 1 = true := by kernel_rfl
theorem zero_41 : zeroOf Try.prog 41 = some [.nilFunc] := by kernel_rfl
theorem one_42 : oneOk Try.prog 42 = true := by kernel_rfl
theorem siz_42 : sizeIs Try.prog 42 1 = true := by kernel_rfl
theorem zero_42 : zeroOf Try.prog 42 = some [.int .u64 0] := by kernel_rfl
theorem one_43 : oneOk Try.prog 43 = true := by kernel_rfl
theorem siz_43 : sizeIs Try.prog 43 1 = true := by kernel_rfl
theorem sl_43 : sliceOk Try.prog 43 42 1 = true := by kernel_rfl
theorem el_43 : elemOk Try.prog 43 42 1 8 = true := by kernel_rfl
theorem und_43 : Try.prog.underlying 43 = some (.slice 42) := by kernel_rfl
theorem zero_43 : zeroOf Try.prog 43 = some [.slice none 0 0] := by kernel_rfl
theorem one_44 : oneOk Try.prog 44 = true := by kernel_rfl
theorem siz_44 : sizeIs Try.prog 44 1 = true := by kernel_rfl
theorem zero_44 : zeroOf Try.prog 44 = some [.nilFunc] := by kernel_rfl
theorem agg_45 : aggOk Try.prog 45 32 = true := by kernel_rfl
theorem siz_45 : sizeIs Try.prog 45 32 = true := by kernel_rfl
theorem arr_45 : arrOk Try.prog 45 5 1 32 = true := by kernel_rfl
theorem zero_45 : zeroOf Try.prog 45 = some [.int .u8 0, .int .u8 0, .int .u8 0, .int .u8 0, .int .u8 0, .int .u8 0, .int .u8 0, .int .u8 0, .int .u8 0, .int .u8 0, .int .u8 0, .int .u8 0, .int .u8 0, .int .u8 0, .int .u8 0, .int .u8 0, .int .u8 0, .int .u8 0, .int .u8 0, .int .u8 0, .int .u8 0, .int .u8 0, .int .u8 0, .int .u8 0, .int .u8 0, .int .u8 0, .int .u8 0, .int .u8 0, .int .u8 0, .int .u8 0, .int .u8 0, .int .u8 0] := by kernel_rfl
theorem flat_45 : flatOk Try.prog 45 32 = true := by kernel_rfl
theorem agg_46 : aggOk Try.prog 46 32 = true := by kernel_rfl
theorem siz_46 : sizeIs Try.prog 46 32 = true := by kernel_rfl
theorem arr_46 : arrOk Try.prog 46 5 1 32 = true := by kernel_rfl
theorem zero_46 : zeroOf Try.prog 46 = some [.int .u8 0, .int .u8 0, .int .u8 0, .int .u8 0, .int .u8 0, .int .u8 0, .int .u8 0, .int .u8 0, .int .u8 0, .int .u8 0, .int .u8 0, .int .u8 0, .int .u8 0, .int .u8 0, .int .u8 0, .int .u8 0, .int .u8 0, .int .u8 0, .int .u8 0, .int .u8 0, .int .u8 0, .int .u8 0, .int .u8 0, .int .u8 0, .int .u8 0, .int .u8 0, .int .u8 0, .int .u8 0, .int .u8 0, .int .u8 0, .int .u8 0, .int .u8 0] := by kernel_rfl
theorem flat_46 : flatOk Try.prog 46 32 = true := by kernel_rfl
theorem agg_47 : aggOk Try.prog 47 70 = true := by kernel_rfl
theorem siz_47 : sizeIs Try.prog 47 70 = true := by kernel_rfl
theorem fld_47_0 : fieldOk Try.prog 47 0 0 = true := by kernel_rfl
theorem fld_47_1 : fieldOk Try.prog 47 1 1 = true := by kernel_rfl
theorem fld_47_2 : fieldOk Try.prog 47 2 2 = true := by kernel_rfl
theorem fld_47_3 : fieldOk Try.prog 47 3 3 = true := by kernel_rfl
theorem fld_47_4 : fieldOk Try.prog 47 4 35 = true := by kernel_rfl
theorem fld_47_5 : fieldOk Try.prog 47 5 36 = true := by kernel_rfl
theorem fld_47_6 : fieldOk Try.prog 47 6 37 = true := by kernel_rfl
theorem fld_47_7 : fieldOk Try.prog 47 7 38 = true := by kernel_rfl
theorem zero_47 : zeroOf Try.prog 47 = some [.int .u64 0, .int .u64 0, .int .u64 0, .int .u8 0, .int .u8 0, .int .u8 0, .int .u8 0, .int .u8 0, .int .u8 0, .int .u8 0, .int .u8 0, .int .u8 0, .int .u8 0, .int .u8 0, .int .u8 0, .int .u8 0, .int .u8 0, .int .u8 0, .int .u8 0, .int .u8 0, .int .u8 0, .int .u8 0, .int .u8 0, .int .u8 0, .int .u8 0, .int .u8 0, .int .u8 0, .int .u8 0, .int .u8 0, .int .u8 0, .int .u8 0, .int .u8 0, .int .u8 0, .int .u8 0, .int .u8 0, .int .u64 0, .int .u64 0, .int .u64 0, .int .u8 0, .int .u8 0, .int .u8 0, .int .u8 0, .int .u8 0, .int .u8 0, .int .u8 0, .int .u8 0, .int .u8 0, .int .u8 0, .int .u8 0, .int .u8 0, .int .u8 0, .int .u8 0, .int .u8 0, .int .u8 0, .int .u8 0, .int .u8 0, .int .u8 0, .int .u8 0, .int .u8 0, .int .u8 0, .int .u8 0, .int .u8 0, .int .u8 0, .int .u8 0, .int .u8 0, .int .u8 0, .int .u8 0, .int .u8 0, .int .u8 0, .int .u8 0] := by kernel_rfl
theorem flat_47 : flatOk Try.prog 47 70 = true := by kernel_rfl
theorem plc_47 : placesOf Try.prog 47 = some [(0, 1), (1, 1), (2, 1), (3, 32), (35, 1), (36, 1), (37, 1), (38, 32)] := by kernel_rfl
theorem agg_48 : aggOk Try.prog 48 70 = true := by kernel_rfl
theorem siz_48 : sizeIs Try.prog 48 70 = true := by kernel_rfl
theorem fld_48_0 : fieldOk Try.prog 48 0 0 = true := by kernel_rfl
theorem fld_48_1 : fieldOk Try.prog 48 1 1 = true := by kernel_rfl
theorem fld_48_2 : fieldOk Try.prog 48 2 2 = true := by kernel_rfl
theorem fld_48_3 : fieldOk Try.prog 48 3 3 = true := by kernel_rfl
theorem fld_48_4 : fieldOk Try.prog 48 4 35 = true := by kernel_rfl
theorem fld_48_5 : fieldOk Try.prog 48 5 36 = true := by kernel_rfl
theorem fld_48_6 : fieldOk Try.prog 48 6 37 = true := by kernel_rfl
theorem fld_48_7 : fieldOk Try.prog 48 7 38 = true := by kernel_rfl
theorem zero_48 : zeroOf Try.prog 48 = some [.int .u64 0, .int .u64 0, .int .u64 0, .int .u8 0, .int .u8 0, .int .u8 0, .int .u8 0, .int .u8 0, .int .u8 0, .int .u8 0, .int .u8 0, .int .u8 0, .int .u8 0, .int .u8 0, .int .u8 0, .int .u8 0, .int .u8 0, .int .u8 0, .int .u8 0, .int .u8 0, .int .u8 0, .int .u8 0, .int .u8 0, .int .u8 0, .int .u8 0, .int .u8 0, .int .u8 0, .int .u8 0, .int .u8 0, .int .u8 0, .int .u8 0, .int .u8 0, .int .u8 0, .int .u8 0, .int .u8 0, .int .u64 0, .int .u64 0, .int .u64 0, .int .u8 0, .int .u8 0, .int .u8 0, .int .u8 0, .int .u8 0, .int .u8 0, .int .u8 0, .int .u8 0, .int .u8 0, .int .u8 0, .int .u8 0, .int .u8 0, .int .u8 0, .int .u8 0, .int .u8 0, .int .u8 0, .int .u8 0, .int .u8 0, .int .u8 0, .int .u8 0, .int .u8 0, .int .u8 0, .int .u8 0, .int .u8 0, .int .u8 0, .int .u8 0, .int .u8 0, .int .u8 0, .int .u8 0, .int .u8 0, .int .u8 0, .int .u8 0] := by kernel_rfl
theorem flat_48 : flatOk Try.prog 48 70 = true := by kernel_rfl
theorem plc_48 : placesOf Try.prog 48 = some [(0, 1), (1, 1), (2, 1), (3, 32), (35, 1), (36, 1), (37, 1), (38, 32)] := by kernel_rfl
theorem one_49 : oneOk Try.prog 49 = true := by kernel_rfl
theorem siz_49 : sizeIs Try.prog 49 1 = true := by kernel_rfl
theorem zero_49 : zeroOf Try.prog 49 = some [.nilFunc] := by kernel_rfl
theorem one_51 : oneOk Try.prog 51 = true := by kernel_rfl
theorem siz_51 : sizeIs Try.prog 51 1 = true := by kernel_rfl
theorem zero_51 : zeroOf Try.prog 51 = some [.nilFunc] := by kernel_rfl
theorem one_52 : oneOk Try.prog 52 = true := by kernel_rfl
theorem siz_52 : sizeIs Try.prog 52 1 = true := by kernel_rfl
theorem zero_52 : zeroOf Try.prog 52 = some [.nilFunc] := by kernel_rfl
theorem one_53 : oneOk Try.prog 53 = true := by kernel_rfl
theorem siz_53 : sizeIs Try.prog 53 1 = true := by kernel_rfl
theorem sl_53 : sliceOk Try.prog 53 4 1 = true := by kernel_rfl
theorem el_53 : elemOk Try.prog 53 4 1 1 = true := by kernel_rfl
theorem und_53 : Try.prog.underlying 53 = some (.slice 4) := by kernel_rfl
theorem zero_53 : zeroOf Try.prog 53 = some [.slice none 0 0] := by kernel_rfl
theorem one_54 : oneOk Try.prog 54 = true := by kernel_rfl
theorem siz_54 : sizeIs Try.prog 54 1 = true := by kernel_rfl
theorem zero_54 : zeroOf Try.prog 54 = some [.nilFunc] := by kernel_rfl
theorem one_55 : oneOk Try.prog 55 = true := by kernel_rfl
theorem siz_55 : sizeIs Try.prog 55 1 = true := by kernel_rfl
theorem map_55 : mapOk Try.prog 55 3 = true := by kernel_rfl
theorem zero_55 : zeroOf Try.prog 55 = some [.map none] := by kernel_rfl
theorem one_56 : oneOk Try.prog 56 = true := by kernel_rfl
theorem siz_56 : sizeIs Try.prog 56 1 = true := by kernel_rfl
theorem sl_56 : sliceOk Try.prog 56 80 1 = true := by kernel_rfl
theorem el_56 : elemOk Try.prog 56 80 1 8 = true := by kernel_rfl
theorem und_56 : Try.prog.underlying 56 = some (.slice 80) := by kernel_rfl
theorem zero_56 : zeroOf Try.prog 56 = some [.slice none 0 0] := by kernel_rfl
theorem one_57 : oneOk Try.prog 57 = true := by kernel_rfl
theorem siz_57 : sizeIs Try.prog 57 1 = true := by kernel_rfl
theorem sl_57 : sliceOk Try.prog 57 3 1 = true := by kernel_rfl
theorem el_57 : elemOk Try.prog 57 3 1 8 = true := by kernel_rfl
theorem und_57 : Try.prog.underlying 57 = some (.slice 3) := by kernel_rfl
theorem zero_57 : zeroOf Try.prog 57 = some [.slice none 0 0] := by kernel_rfl
theorem agg_58 : aggOk Try.prog 58 9 = true := by kernel_rfl
theorem siz_58 : sizeIs Try.prog 58 9 = true := by kernel_rfl
theorem fld_58_0 : fieldOk Try.prog 58 0 0 = true := by kernel_rfl
theorem fld_58_1 : fieldOk Try.prog 58 1 1 = true := by kernel_rfl
theorem fld_58_2 : fieldOk Try.prog 58 2 2 = true := by kernel_rfl
theorem fld_58_3 : fieldOk Try.prog 58 3 3 = true := by kernel_rfl
theorem fld_58_4 : fieldOk Try.prog 58 4 4 = true := by kernel_rfl
theorem fld_58_5 : fieldOk Try.prog 58 5 5 = true := by kernel_rfl
theorem fld_58_6 : fieldOk Try.prog 58 6 6 = true := by kernel_rfl
theorem fld_58_7 : fieldOk Try.prog 58 7 7 = true := by kernel_rfl
theorem fld_58_8 : fieldOk Try.prog 58 8 8 = true := by kernel_rfl
theorem zero_58 : zeroOf Try.prog 58 = some [.int .i64 0, .int .i64 0, .slice none 0 0, .slice none 0 0, .slice none 0 0, .map none, .bool false, .bool false, .int .i64 0] := by kernel_rfl
theorem plc_58 : placesOf Try.prog 58 = some [(0, 1), (1, 1), (2, 1), (3, 1), (4, 1), (5, 1), (6, 1), (7, 1), (8, 1)] := by kernel_rfl
theorem agg_59 : aggOk Try.prog 59 9 = true := by kernel_rfl
theorem siz_59 : sizeIs Try.prog 59 9 = true := by kernel_rfl
theorem fld_59_0 : fieldOk Try.prog 59 0 0 = true := by kernel_rfl
theorem fld_59_1 : fieldOk Try.prog 59 1 1 = true := by kernel_rfl
theorem fld_59_2 : fieldOk Try.prog 59 2 2 = true := by kernel_rfl
theorem fld_59_3 : fieldOk Try.prog 59 3 3 = true := by kernel_rfl
theorem fld_59_4 : fieldOk Try.prog 59 4 4 = true := by kernel_rfl
theorem fld_59_5 : fieldOk Try.prog 59 5 5 = true := by kernel_rfl
theorem fld_59_6 : fieldOk Try.prog 59 6 6 = true := by kernel_rfl
theorem fld_59_7 : fieldOk Try.prog 59 7 7 = true := by kernel_rfl
theorem fld_59_8 : fieldOk Try.prog 59 8 8 = true := by kernel_rfl
theorem zero_59 : zeroOf Try.prog 59 = some [.int .i64 0, .int .i64 0, .slice none 0 0, .slice none 0 0, .slice none 0 0, .map none, .bool false, .bool false, .int .i64 0] := by kernel_rfl
theorem plc_59 : placesOf Try.prog 59 = some [(0, 1), (1, 1), (2, 1), (3, 1), (4, 1), (5, 1), (6, 1), (7, 1), (8, 1)] := by kernel_rfl
theorem one_61 : oneOk Try.prog 61 = true := by kernel_rfl
theorem siz_61 : sizeIs Try.prog 61 1 = true := by kernel_rfl
theorem zero_61 : zeroOf Try.prog 61 = some [.nilFunc] := by kernel_rfl
theorem agg_62 : aggOk Try.prog 62 4 = true := by kernel_rfl
theorem siz_62 : sizeIs Try.prog 62 4 = true := by kernel_rfl
theorem fld_62_0 : fieldOk Try.prog 62 0 0 = true := by kernel_rfl
theorem fld_62_1 : fieldOk Try.prog 62 1 1 = true := by kernel_rfl
theorem fld_62_2 : fieldOk Try.prog 62 2 2 = true := by kernel_rfl
theorem fld_62_3 : fieldOk Try.prog 62 3 3 = true := by kernel_rfl
theorem zero_62 : zeroOf Try.prog 62 = some [.pointer none, .int .i64 0, .int .i64 0, .int .i64 0] := by kernel_rfl
theorem plc_62 : placesOf Try.prog 62 = some [(0, 1), (1, 1), (2, 1), (3, 1)] := by kernel_rfl
theorem agg_63 : aggOk Try.prog 63 4 = true := by kernel_rfl
theorem siz_63 : sizeIs Try.prog 63 4 = true := by kernel_rfl
theorem fld_63_0 : fieldOk Try.prog 63 0 0 = true := by kernel_rfl
theorem fld_63_1 : fieldOk Try.prog 63 1 1 = true := by kernel_rfl
theorem fld_63_2 : fieldOk Try.prog 63 2 2 = true := by kernel_rfl
theorem fld_63_3 : fieldOk Try.prog 63 3 3 = true := by kernel_rfl
theorem zero_63 : zeroOf Try.prog 63 = some [.pointer none, .int .i64 0, .int .i64 0, .int .i64 0] := by kernel_rfl
theorem plc_63 : placesOf Try.prog 63 = some [(0, 1), (1, 1), (2, 1), (3, 1)] := by kernel_rfl
theorem one_64 : oneOk Try.prog 64 = true := by kernel_rfl
theorem siz_64 : sizeIs Try.prog 64 1 = true := by kernel_rfl
theorem zero_64 : zeroOf Try.prog 64 = some [.nilFunc] := by kernel_rfl
theorem one_65 : oneOk Try.prog 65 = true := by kernel_rfl
theorem siz_65 : sizeIs Try.prog 65 1 = true := by kernel_rfl
theorem und_65 : Try.prog.underlying 65 = some (.pointer 93) := by kernel_rfl
theorem zero_65 : zeroOf Try.prog 65 = some [.pointer none] := by kernel_rfl
theorem one_67 : oneOk Try.prog 67 = true := by kernel_rfl
theorem siz_67 : sizeIs Try.prog 67 1 = true := by kernel_rfl
theorem zero_67 : zeroOf Try.prog 67 = some [.nilFunc] := by kernel_rfl
theorem one_68 : oneOk Try.prog 68 = true := by kernel_rfl
theorem siz_68 : sizeIs Try.prog 68 1 = true := by kernel_rfl
theorem zero_68 : zeroOf Try.prog 68 = some [.nilFunc] := by kernel_rfl
theorem one_69 : oneOk Try.prog 69 = true := by kernel_rfl
theorem siz_69 : sizeIs Try.prog 69 1 = true := by kernel_rfl
theorem zero_69 : zeroOf Try.prog 69 = some [.nilFunc] := by kernel_rfl
theorem agg_70 : aggOk Try.prog 70 3 = true := by kernel_rfl
theorem siz_70 : sizeIs Try.prog 70 3 = true := by kernel_rfl
theorem fld_70_0 : fieldOk Try.prog 70 0 0 = true := by kernel_rfl
theorem fld_70_1 : fieldOk Try.prog 70 1 1 = true := by kernel_rfl
theorem fld_70_2 : fieldOk Try.prog 70 2 2 = true := by kernel_rfl
theorem zero_70 : zeroOf Try.prog 70 = some [.int .i64 0, .int .i64 0, .int .i64 0] := by kernel_rfl
theorem flat_70 : flatOk Try.prog 70 3 = true := by kernel_rfl
theorem plc_70 : placesOf Try.prog 70 = some [(0, 1), (1, 1), (2, 1)] := by kernel_rfl
theorem agg_71 : aggOk Try.prog 71 3 = true := by kernel_rfl
theorem siz_71 : sizeIs Try.prog 71 3 = true := by kernel_rfl
theorem fld_71_0 : fieldOk Try.prog 71 0 0 = true := by kernel_rfl
theorem fld_71_1 : fieldOk Try.prog 71 1 1 = true := by kernel_rfl
theorem fld_71_2 : fieldOk Try.prog 71 2 2 = true := by kernel_rfl
theorem zero_71 : zeroOf Try.prog 71 = some [.int .i64 0, .int .i64 0, .int .i64 0] := by kernel_rfl
theorem flat_71 : flatOk Try.prog 71 3 = true := by kernel_rfl
theorem plc_71 : placesOf Try.prog 71 = some [(0, 1), (1, 1), (2, 1)] := by kernel_rfl
theorem one_72 : oneOk Try.prog 72 = true := by kernel_rfl
theorem siz_72 : sizeIs Try.prog 72 1 = true := by kernel_rfl
theorem zero_72 : zeroOf Try.prog 72 = some [.nilFunc] := by kernel_rfl
theorem one_73 : oneOk Try.prog 73 = true := by kernel_rfl
theorem siz_73 : sizeIs Try.prog 73 1 = true := by kernel_rfl
theorem und_73 : Try.prog.underlying 73 = some (.pointer 75) := by kernel_rfl
theorem zero_73 : zeroOf Try.prog 73 = some [.pointer none] := by kernel_rfl
theorem agg_74 : aggOk Try.prog 74 2 = true := by kernel_rfl
theorem siz_74 : sizeIs Try.prog 74 2 = true := by kernel_rfl
theorem fld_74_0 : fieldOk Try.prog 74 0 0 = true := by kernel_rfl
theorem fld_74_1 : fieldOk Try.prog 74 1 1 = true := by kernel_rfl
theorem zero_74 : zeroOf Try.prog 74 = some [.pointer none, .slice none 0 0] := by kernel_rfl
theorem plc_74 : placesOf Try.prog 74 = some [(0, 1), (1, 1)] := by kernel_rfl
theorem agg_75 : aggOk Try.prog 75 2 = true := by kernel_rfl
theorem siz_75 : sizeIs Try.prog 75 2 = true := by kernel_rfl
theorem fld_75_0 : fieldOk Try.prog 75 0 0 = true := by kernel_rfl
theorem fld_75_1 : fieldOk Try.prog 75 1 1 = true := by kernel_rfl
theorem zero_75 : zeroOf Try.prog 75 = some [.pointer none, .slice none 0 0] := by kernel_rfl
theorem plc_75 : placesOf Try.prog 75 = some [(0, 1), (1, 1)] := by kernel_rfl
theorem one_76 : oneOk Try.prog 76 = true := by kernel_rfl
theorem siz_76 : sizeIs Try.prog 76 1 = true := by kernel_rfl
theorem zero_76 : zeroOf Try.prog 76 = some [.nilIface] := by kernel_rfl
theorem one_77 : oneOk Try.prog 77 = true := by kernel_rfl
theorem siz_77 : sizeIs Try.prog 77 1 = true := by kernel_rfl
theorem zero_77 : zeroOf Try.prog 77 = some [.nilIface] := by kernel_rfl
theorem one_79 : oneOk Try.prog 79 = true := by kernel_rfl
theorem siz_79 : sizeIs Try.prog 79 1 = true := by kernel_rfl
theorem zero_79 : zeroOf Try.prog 79 = some [.nilFunc] := by kernel_rfl
theorem one_80 : oneOk Try.prog 80 = true := by kernel_rfl
theorem siz_80 : sizeIs Try.prog 80 1 = true := by kernel_rfl
theorem zero_80 : zeroOf Try.prog 80 = some [.nilFunc] := by kernel_rfl
theorem one_81 : oneOk Try.prog 81 = true := by kernel_rfl
theorem siz_81 : sizeIs Try.prog 81 1 = true := by kernel_rfl
theorem zero_81 : zeroOf Try.prog 81 = some [.nilFunc] := by kernel_rfl
theorem one_82 : oneOk Try.prog 82 = true := by kernel_rfl
theorem siz_82 : sizeIs Try.prog 82 1 = true := by kernel_rfl
theorem zero_82 : zeroOf Try.prog 82 = some [.nilFunc] := by kernel_rfl
theorem one_83 : oneOk Try.prog 83 = true := by kernel_rfl
theorem siz_83 : sizeIs Try.prog 83 1 = true := by kernel_rfl
theorem zero_83 : zeroOf Try.prog 83 = some [.nilFunc] := by kernel_rfl
theorem agg_84 : aggOk Try.prog 84 2 = true := by kernel_rfl
theorem siz_84 : sizeIs Try.prog 84 2 = true := by kernel_rfl
theorem arr_84 : arrOk Try.prog 84 9 1 2 = true := by kernel_rfl
theorem zero_84 : zeroOf Try.prog 84 = some [.string ⟨#[]⟩, .string ⟨#[]⟩] := by kernel_rfl
theorem one_85 : oneOk Try.prog 85 = true := by kernel_rfl
theorem siz_85 : sizeIs Try.prog 85 1 = true := by kernel_rfl
theorem und_85 : Try.prog.underlying 85 = some (.pointer 88) := by kernel_rfl
theorem zero_85 : zeroOf Try.prog 85 = some [.pointer none] := by kernel_rfl
theorem one_86 : oneOk Try.prog 86 = true := by kernel_rfl
theorem siz_86 : sizeIs Try.prog 86 1 = true := by kernel_rfl
theorem zero_86 : zeroOf Try.prog 86 = some [.nilFunc] := by kernel_rfl
theorem agg_87 : aggOk Try.prog 87 72 = true := by kernel_rfl
theorem siz_87 : sizeIs Try.prog 87 72 = true := by kernel_rfl
theorem fld_87_0 : fieldOk Try.prog 87 0 0 = true := by kernel_rfl
theorem fld_87_1 : fieldOk Try.prog 87 1 1 = true := by kernel_rfl
theorem fld_87_2 : fieldOk Try.prog 87 2 71 = true := by kernel_rfl
theorem zero_87 : zeroOf Try.prog 87 = some [.nilFunc, .int .u64 0, .int .u64 0, .int .u64 0, .int .u8 0, .int .u8 0, .int .u8 0, .int .u8 0, .int .u8 0, .int .u8 0, .int .u8 0, .int .u8 0, .int .u8 0, .int .u8 0, .int .u8 0, .int .u8 0, .int .u8 0, .int .u8 0, .int .u8 0, .int .u8 0, .int .u8 0, .int .u8 0, .int .u8 0, .int .u8 0, .int .u8 0, .int .u8 0, .int .u8 0, .int .u8 0, .int .u8 0, .int .u8 0, .int .u8 0, .int .u8 0, .int .u8 0, .int .u8 0, .int .u8 0, .int .u8 0, .int .u64 0, .int .u64 0, .int .u64 0, .int .u8 0, .int .u8 0, .int .u8 0, .int .u8 0, .int .u8 0, .int .u8 0, .int .u8 0, .int .u8 0, .int .u8 0, .int .u8 0, .int .u8 0, .int .u8 0, .int .u8 0, .int .u8 0, .int .u8 0, .int .u8 0, .int .u8 0, .int .u8 0, .int .u8 0, .int .u8 0, .int .u8 0, .int .u8 0, .int .u8 0, .int .u8 0, .int .u8 0, .int .u8 0, .int .u8 0, .int .u8 0, .int .u8 0, .int .u8 0, .int .u8 0, .int .u8 0, .bool false] := by kernel_rfl
theorem plc_87 : placesOf Try.prog 87 = some [(0, 1), (1, 70), (71, 1)] := by kernel_rfl
theorem agg_88 : aggOk Try.prog 88 72 = true := by kernel_rfl
theorem siz_88 : sizeIs Try.prog 88 72 = true := by kernel_rfl
theorem fld_88_0 : fieldOk Try.prog 88 0 0 = true := by kernel_rfl
theorem fld_88_1 : fieldOk Try.prog 88 1 1 = true := by kernel_rfl
theorem fld_88_2 : fieldOk Try.prog 88 2 71 = true := by kernel_rfl
theorem zero_88 : zeroOf Try.prog 88 = some [.nilFunc, .int .u64 0, .int .u64 0, .int .u64 0, .int .u8 0, .int .u8 0, .int .u8 0, .int .u8 0, .int .u8 0, .int .u8 0, .int .u8 0, .int .u8 0, .int .u8 0, .int .u8 0, .int .u8 0, .int .u8 0, .int .u8 0, .int .u8 0, .int .u8 0, .int .u8 0, .int .u8 0, .int .u8 0, .int .u8 0, .int .u8 0, .int .u8 0, .int .u8 0, .int .u8 0, .int .u8 0, .int .u8 0, .int .u8 0, .int .u8 0, .int .u8 0, .int .u8 0, .int .u8 0, .int .u8 0, .int .u8 0, .int .u64 0, .int .u64 0, .int .u64 0, .int .u8 0, .int .u8 0, .int .u8 0, .int .u8 0, .int .u8 0, .int .u8 0, .int .u8 0, .int .u8 0, .int .u8 0, .int .u8 0, .int .u8 0, .int .u8 0, .int .u8 0, .int .u8 0, .int .u8 0, .int .u8 0, .int .u8 0, .int .u8 0, .int .u8 0, .int .u8 0, .int .u8 0, .int .u8 0, .int .u8 0, .int .u8 0, .int .u8 0, .int .u8 0, .int .u8 0, .int .u8 0, .int .u8 0, .int .u8 0, .int .u8 0, .int .u8 0, .bool false] := by kernel_rfl
theorem plc_88 : placesOf Try.prog 88 = some [(0, 1), (1, 70), (71, 1)] := by kernel_rfl
theorem one_89 : oneOk Try.prog 89 = true := by kernel_rfl
theorem siz_89 : sizeIs Try.prog 89 1 = true := by kernel_rfl
theorem zero_89 : zeroOf Try.prog 89 = some [.nilFunc] := by kernel_rfl
theorem one_90 : oneOk Try.prog 90 = true := by kernel_rfl
theorem siz_90 : sizeIs Try.prog 90 1 = true := by kernel_rfl
theorem zero_90 : zeroOf Try.prog 90 = some [.nilFunc] := by kernel_rfl
theorem agg_92 : aggOk Try.prog 92 3 = true := by kernel_rfl
theorem siz_92 : sizeIs Try.prog 92 3 = true := by kernel_rfl
theorem fld_92_0 : fieldOk Try.prog 92 0 0 = true := by kernel_rfl
theorem fld_92_1 : fieldOk Try.prog 92 1 1 = true := by kernel_rfl
theorem fld_92_2 : fieldOk Try.prog 92 2 2 = true := by kernel_rfl
theorem zero_92 : zeroOf Try.prog 92 = some [.int .i64 0, .int .i64 0, .int .i64 0] := by kernel_rfl
theorem flat_92 : flatOk Try.prog 92 3 = true := by kernel_rfl
theorem plc_92 : placesOf Try.prog 92 = some [(0, 1), (1, 1), (2, 1)] := by kernel_rfl
theorem agg_93 : aggOk Try.prog 93 3 = true := by kernel_rfl
theorem siz_93 : sizeIs Try.prog 93 3 = true := by kernel_rfl
theorem fld_93_0 : fieldOk Try.prog 93 0 0 = true := by kernel_rfl
theorem fld_93_1 : fieldOk Try.prog 93 1 1 = true := by kernel_rfl
theorem fld_93_2 : fieldOk Try.prog 93 2 2 = true := by kernel_rfl
theorem zero_93 : zeroOf Try.prog 93 = some [.int .i64 0, .int .i64 0, .int .i64 0] := by kernel_rfl
theorem flat_93 : flatOk Try.prog 93 3 = true := by kernel_rfl
theorem plc_93 : placesOf Try.prog 93 = some [(0, 1), (1, 1), (2, 1)] := by kernel_rfl
theorem one_95 : oneOk Try.prog 95 = true := by kernel_rfl
theorem siz_95 : sizeIs Try.prog 95 1 = true := by kernel_rfl
theorem und_95 : Try.prog.underlying 95 = some (.pointer 5) := by kernel_rfl
theorem zero_95 : zeroOf Try.prog 95 = some [.pointer none] := by kernel_rfl
theorem agg_96 : aggOk Try.prog 96 2 = true := by kernel_rfl
theorem siz_96 : sizeIs Try.prog 96 2 = true := by kernel_rfl
theorem arr_96 : arrOk Try.prog 96 3 1 2 = true := by kernel_rfl
theorem zero_96 : zeroOf Try.prog 96 = some [.int .i64 0, .int .i64 0] := by kernel_rfl
theorem flat_96 : flatOk Try.prog 96 2 = true := by kernel_rfl
theorem one_97 : oneOk Try.prog 97 = true := by kernel_rfl
theorem siz_97 : sizeIs Try.prog 97 1 = true := by kernel_rfl
theorem zero_97 : zeroOf Try.prog 97 = some [.nilFunc] := by kernel_rfl
theorem one_98 : oneOk Try.prog 98 = true := by kernel_rfl
theorem siz_98 : sizeIs Try.prog 98 1 = true := by kernel_rfl
theorem zero_98 : zeroOf Try.prog 98 = some [.nilFunc] := by kernel_rfl
theorem one_99 : oneOk Try.prog 99 = true := by kernel_rfl
theorem siz_99 : sizeIs Try.prog 99 1 = true := by kernel_rfl
theorem und_99 : Try.prog.underlying 99 = some (.pointer 101) := by kernel_rfl
theorem zero_99 : zeroOf Try.prog 99 = some [.pointer none] := by kernel_rfl
theorem agg_100 : aggOk Try.prog 100 1 = true := by kernel_rfl
theorem siz_100 : sizeIs Try.prog 100 1 = true := by kernel_rfl
theorem fld_100_0 : fieldOk Try.prog 100 0 0 = true := by kernel_rfl
theorem zero_100 : zeroOf Try.prog 100 = some [.string ⟨#[]⟩] := by kernel_rfl
theorem plc_100 : placesOf Try.prog 100 = some [(0, 1)] := by kernel_rfl
theorem agg_101 : aggOk Try.prog 101 1 = true := by kernel_rfl
theorem siz_101 : sizeIs Try.prog 101 1 = true := by kernel_rfl
theorem fld_101_0 : fieldOk Try.prog 101 0 0 = true := by kernel_rfl
theorem zero_101 : zeroOf Try.prog 101 = some [.string ⟨#[]⟩] := by kernel_rfl
theorem plc_101 : placesOf Try.prog 101 = some [(0, 1)] := by kernel_rfl
theorem one_102 : oneOk Try.prog 102 = true := by kernel_rfl
theorem siz_102 : sizeIs Try.prog 102 1 = true := by kernel_rfl
theorem zero_102 : zeroOf Try.prog 102 = some [.nilFunc] := by kernel_rfl
theorem one_103 : oneOk Try.prog 103 = true := by kernel_rfl
theorem siz_103 : sizeIs Try.prog 103 1 = true := by kernel_rfl
theorem zero_103 : zeroOf Try.prog 103 = some [.nilFunc] := by kernel_rfl
theorem one_104 : oneOk Try.prog 104 = true := by kernel_rfl
theorem siz_104 : sizeIs Try.prog 104 1 = true := by kernel_rfl
theorem zero_104 : zeroOf Try.prog 104 = some [.nilFunc] := by kernel_rfl
theorem one_105 : oneOk Try.prog 105 = true := by kernel_rfl
theorem siz_105 : sizeIs Try.prog 105 1 = true := by kernel_rfl
theorem und_105 : Try.prog.underlying 105 = some (.pointer 42) := by kernel_rfl
theorem zero_105 : zeroOf Try.prog 105 = some [.pointer none] := by kernel_rfl
theorem one_106 : oneOk Try.prog 106 = true := by kernel_rfl
theorem siz_106 : sizeIs Try.prog 106 1 = true := by kernel_rfl
theorem zero_106 : zeroOf Try.prog 106 = some [.nilFunc] := by kernel_rfl
theorem one_107 : oneOk Try.prog 107 = true := by kernel_rfl
theorem siz_107 : sizeIs Try.prog 107 1 = true := by kernel_rfl
theorem one_108 : oneOk Try.prog 108 = true := by kernel_rfl
theorem siz_108 : sizeIs Try.prog 108 1 = true := by kernel_rfl
theorem zero_108 : zeroOf Try.prog 108 = some [.nilFunc] := by kernel_rfl
theorem one_109 : oneOk Try.prog 109 = true := by kernel_rfl
theorem siz_109 : sizeIs Try.prog 109 1 = true := by kernel_rfl
theorem zero_109 : zeroOf Try.prog 109 = some [.int .u64 0] := by kernel_rfl
theorem one_111 : oneOk Try.prog 111 = true := by kernel_rfl
theorem siz_111 : sizeIs Try.prog 111 1 = true := by kernel_rfl
theorem zero_111 : zeroOf Try.prog 111 = some [.nilFunc] := by kernel_rfl
theorem one_112 : oneOk Try.prog 112 = true := by kernel_rfl
theorem siz_112 : sizeIs Try.prog 112 1 = true := by kernel_rfl
theorem zero_112 : zeroOf Try.prog 112 = some [.nilFunc] := by kernel_rfl
theorem one_113 : oneOk Try.prog 113 = true := by kernel_rfl
theorem siz_113 : sizeIs Try.prog 113 1 = true := by kernel_rfl
theorem zero_113 : zeroOf Try.prog 113 = some [.nilFunc] := by kernel_rfl
theorem one_114 : oneOk Try.prog 114 = true := by kernel_rfl
theorem siz_114 : sizeIs Try.prog 114 1 = true := by kernel_rfl
theorem zero_114 : zeroOf Try.prog 114 = some [.nilFunc] := by kernel_rfl
theorem one_115 : oneOk Try.prog 115 = true := by kernel_rfl
theorem siz_115 : sizeIs Try.prog 115 1 = true := by kernel_rfl
theorem sl_115 : sliceOk Try.prog 115 105 1 = true := by kernel_rfl
theorem el_115 : elemOk Try.prog 115 105 1 8 = true := by kernel_rfl
theorem und_115 : Try.prog.underlying 115 = some (.slice 105) := by kernel_rfl
theorem zero_115 : zeroOf Try.prog 115 = some [.slice none 0 0] := by kernel_rfl
theorem one_117 : oneOk Try.prog 117 = true := by kernel_rfl
theorem siz_117 : sizeIs Try.prog 117 1 = true := by kernel_rfl
theorem zero_117 : zeroOf Try.prog 117 = some [.nilFunc] := by kernel_rfl
theorem one_118 : oneOk Try.prog 118 = true := by kernel_rfl
theorem siz_118 : sizeIs Try.prog 118 1 = true := by kernel_rfl
theorem zero_118 : zeroOf Try.prog 118 = some [.int .u32 0] := by kernel_rfl
theorem one_120 : oneOk Try.prog 120 = true := by kernel_rfl
theorem siz_120 : sizeIs Try.prog 120 1 = true := by kernel_rfl
theorem zero_120 : zeroOf Try.prog 120 = some [.nilFunc] := by kernel_rfl
theorem one_122 : oneOk Try.prog 122 = true := by kernel_rfl
theorem siz_122 : sizeIs Try.prog 122 1 = true := by kernel_rfl
theorem zero_122 : zeroOf Try.prog 122 = some [.nilFunc] := by kernel_rfl
theorem one_123 : oneOk Try.prog 123 = true := by kernel_rfl
theorem siz_123 : sizeIs Try.prog 123 1 = true := by kernel_rfl
theorem zero_123 : zeroOf Try.prog 123 = some [.nilFunc] := by kernel_rfl
theorem one_125 : oneOk Try.prog 125 = true := by kernel_rfl
theorem siz_125 : sizeIs Try.prog 125 1 = true := by kernel_rfl
theorem zero_125 : zeroOf Try.prog 125 = some [.nilFunc] := by kernel_rfl
theorem agg_126 : aggOk Try.prog 126 4 = true := by kernel_rfl
theorem siz_126 : sizeIs Try.prog 126 4 = true := by kernel_rfl
theorem fld_126_0 : fieldOk Try.prog 126 0 0 = true := by kernel_rfl
theorem fld_126_1 : fieldOk Try.prog 126 1 1 = true := by kernel_rfl
theorem fld_126_2 : fieldOk Try.prog 126 2 2 = true := by kernel_rfl
theorem fld_126_3 : fieldOk Try.prog 126 3 3 = true := by kernel_rfl
theorem zero_126 : zeroOf Try.prog 126 = some [.pointer none, .pointer none, .pointer none, .string ⟨#[]⟩] := by kernel_rfl
theorem plc_126 : placesOf Try.prog 126 = some [(0, 1), (1, 1), (2, 1), (3, 1)] := by kernel_rfl
theorem agg_127 : aggOk Try.prog 127 4 = true := by kernel_rfl
theorem siz_127 : sizeIs Try.prog 127 4 = true := by kernel_rfl
theorem fld_127_0 : fieldOk Try.prog 127 0 0 = true := by kernel_rfl
theorem fld_127_1 : fieldOk Try.prog 127 1 1 = true := by kernel_rfl
theorem fld_127_2 : fieldOk Try.prog 127 2 2 = true := by kernel_rfl
theorem fld_127_3 : fieldOk Try.prog 127 3 3 = true := by kernel_rfl
theorem zero_127 : zeroOf Try.prog 127 = some [.pointer none, .pointer none, .pointer none, .string ⟨#[]⟩] := by kernel_rfl
theorem plc_127 : placesOf Try.prog 127 = some [(0, 1), (1, 1), (2, 1), (3, 1)] := by kernel_rfl
theorem agg_128 : aggOk Try.prog 128 0 = true := by kernel_rfl
theorem siz_128 : sizeIs Try.prog 128 0 = true := by kernel_rfl
theorem arr_128 : arrOk Try.prog 128 16 1 0 = true := by kernel_rfl
theorem zero_128 : zeroOf Try.prog 128 = some [] := by kernel_rfl
theorem agg_129 : aggOk Try.prog 129 0 = true := by kernel_rfl
theorem siz_129 : sizeIs Try.prog 129 0 = true := by kernel_rfl
theorem zero_129 : zeroOf Try.prog 129 = some [] := by kernel_rfl
theorem plc_129 : placesOf Try.prog 129 = some [(0, 0)] := by kernel_rfl
theorem agg_130 : aggOk Try.prog 130 0 = true := by kernel_rfl
theorem siz_130 : sizeIs Try.prog 130 0 = true := by kernel_rfl
theorem zero_130 : zeroOf Try.prog 130 = some [] := by kernel_rfl
theorem plc_130 : placesOf Try.prog 130 = some [(0, 0)] := by kernel_rfl
theorem one_131 : oneOk Try.prog 131 = true := by kernel_rfl
theorem siz_131 : sizeIs Try.prog 131 1 = true := by kernel_rfl
theorem zero_131 : zeroOf Try.prog 131 = some [.int .u8 0] := by kernel_rfl
theorem one_132 : oneOk Try.prog 132 = true := by kernel_rfl
theorem siz_132 : sizeIs Try.prog 132 1 = true := by kernel_rfl
theorem zero_132 : zeroOf Try.prog 132 = some [.int .u8 0] := by kernel_rfl
theorem one_133 : oneOk Try.prog 133 = true := by kernel_rfl
theorem siz_133 : sizeIs Try.prog 133 1 = true := by kernel_rfl
theorem zero_133 : zeroOf Try.prog 133 = some [.nilFunc] := by kernel_rfl
theorem one_134 : oneOk Try.prog 134 = true := by kernel_rfl
theorem siz_134 : sizeIs Try.prog 134 1 = true := by kernel_rfl
theorem zero_134 : zeroOf Try.prog 134 = some [.int .i32 0] := by kernel_rfl
theorem one_135 : oneOk Try.prog 135 = true := by kernel_rfl
theorem siz_135 : sizeIs Try.prog 135 1 = true := by kernel_rfl
theorem zero_135 : zeroOf Try.prog 135 = some [.int .i32 0] := by kernel_rfl
theorem agg_136 : aggOk Try.prog 136 11 = true := by kernel_rfl
theorem siz_136 : sizeIs Try.prog 136 11 = true := by kernel_rfl
theorem fld_136_0 : fieldOk Try.prog 136 0 0 = true := by kernel_rfl
theorem fld_136_1 : fieldOk Try.prog 136 1 1 = true := by kernel_rfl
theorem fld_136_2 : fieldOk Try.prog 136 2 2 = true := by kernel_rfl
theorem fld_136_3 : fieldOk Try.prog 136 3 3 = true := by kernel_rfl
theorem fld_136_4 : fieldOk Try.prog 136 4 4 = true := by kernel_rfl
theorem fld_136_5 : fieldOk Try.prog 136 5 5 = true := by kernel_rfl
theorem fld_136_6 : fieldOk Try.prog 136 6 6 = true := by kernel_rfl
theorem fld_136_7 : fieldOk Try.prog 136 7 7 = true := by kernel_rfl
theorem fld_136_8 : fieldOk Try.prog 136 8 8 = true := by kernel_rfl
theorem fld_136_9 : fieldOk Try.prog 136 9 9 = true := by kernel_rfl
theorem fld_136_10 : fieldOk Try.prog 136 10 10 = true := by kernel_rfl
theorem zero_136 : zeroOf Try.prog 136 = some [.int .u64 0, .int .u64 0, .int .u32 0, .int .u8 0, .int .u8 0, .int .u8 0, .int .u8 0, .nilFunc, .pointer none, .int .i32 0, .int .i32 0] := by kernel_rfl
theorem plc_136 : placesOf Try.prog 136 = some [(0, 1), (1, 1), (2, 1), (3, 1), (4, 1), (5, 1), (6, 1), (7, 1), (8, 1), (9, 1), (10, 1)] := by kernel_rfl
theorem agg_137 : aggOk Try.prog 137 11 = true := by kernel_rfl
theorem siz_137 : sizeIs Try.prog 137 11 = true := by kernel_rfl
theorem fld_137_0 : fieldOk Try.prog 137 0 0 = true := by kernel_rfl
theorem fld_137_1 : fieldOk Try.prog 137 1 1 = true := by kernel_rfl
theorem fld_137_2 : fieldOk Try.prog 137 2 2 = true := by kernel_rfl
theorem fld_137_3 : fieldOk Try.prog 137 3 3 = true := by kernel_rfl
theorem fld_137_4 : fieldOk Try.prog 137 4 4 = true := by kernel_rfl
theorem fld_137_5 : fieldOk Try.prog 137 5 5 = true := by kernel_rfl
theorem fld_137_6 : fieldOk Try.prog 137 6 6 = true := by kernel_rfl
theorem fld_137_7 : fieldOk Try.prog 137 7 7 = true := by kernel_rfl
theorem fld_137_8 : fieldOk Try.prog 137 8 8 = true := by kernel_rfl
theorem fld_137_9 : fieldOk Try.prog 137 9 9 = true := by kernel_rfl
theorem fld_137_10 : fieldOk Try.prog 137 10 10 = true := by kernel_rfl
theorem zero_137 : zeroOf Try.prog 137 = some [.int .u64 0, .int .u64 0, .int .u32 0, .int .u8 0, .int .u8 0, .int .u8 0, .int .u8 0, .nilFunc, .pointer none, .int .i32 0, .int .i32 0] := by kernel_rfl
theorem plc_137 : placesOf Try.prog 137 = some [(0, 1), (1, 1), (2, 1), (3, 1), (4, 1), (5, 1), (6, 1), (7, 1), (8, 1), (9, 1), (10, 1)] := by kernel_rfl
theorem zv_2 : zeroV Try.prog 2 = some (.int .i64 0) := by kernel_rfl
theorem zv_3 : zeroV Try.prog 3 = some (.int .i64 0) := by kernel_rfl
theorem zv_5 : zeroV Try.prog 5 = some (.int .u8 0) := by kernel_rfl
theorem zv_6 : zeroV Try.prog 6 = some (.int .u8 0) := by kernel_rfl
theorem zv_12 : zeroV Try.prog 12 = some (.int .u64 0) := by kernel_rfl
theorem zv_21 : zeroV Try.prog 21 = some (.int .i32 0) := by kernel_rfl
theorem zv_23 : zeroV Try.prog 23 = some (.int .i64 0) := by kernel_rfl
theorem byt_38_9 : bytesOk Try.prog 38 9 = true := by kernel_rfl
theorem byt_38_10 : bytesOk Try.prog 38 10 = true := by kernel_rfl
theorem byt_38_11 : bytesOk Try.prog 38 11 = true := by kernel_rfl
theorem zv_42 : zeroV Try.prog 42 = some (.int .u64 0) := by kernel_rfl
theorem zv_109 : zeroV Try.prog 109 = some (.int .u64 0) := by kernel_rfl
theorem zv_118 : zeroV Try.prog 118 = some (.int .u32 0) := by kernel_rfl
theorem zv_131 : zeroV Try.prog 131 = some (.int .u8 0) := by kernel_rfl
theorem zv_132 : zeroV Try.prog 132 = some (.int .u8 0) := by kernel_rfl
theorem zv_134 : zeroV Try.prog 134 = some (.int .i32 0) := by kernel_rfl
theorem zv_135 : zeroV Try.prog 135 = some (.int .i32 0) := by kernel_rfl
theorem ent_3 (args : Array Value) (w : World) : (callFunc 3 args).run Try.prog w = .ok (.enter 3 args) w := callFunc_enter Try.func3 rfl (by decide) args w
theorem ent_4 (args : Array Value) (w : World) : (callFunc 4 args).run Try.prog w = .ok (.enter 4 args) w := callFunc_enter Try.func4 rfl (by decide) args w
theorem ent_5 (args : Array Value) (w : World) : (callFunc 5 args).run Try.prog w = .ok (.enter 5 args) w := callFunc_enter Try.func5 rfl (by decide) args w
theorem ent_6 (args : Array Value) (w : World) : (callFunc 6 args).run Try.prog w = .ok (.enter 6 args) w := callFunc_enter Try.func6 rfl (by decide) args w
theorem ent_7 (args : Array Value) (w : World) : (callFunc 7 args).run Try.prog w = .ok (.enter 7 args) w := callFunc_enter Try.func7 rfl (by decide) args w
theorem ent_8 (args : Array Value) (w : World) : (callFunc 8 args).run Try.prog w = .ok (.enter 8 args) w := callFunc_enter Try.func8 rfl (by decide) args w
theorem ent_9 (args : Array Value) (w : World) : (callFunc 9 args).run Try.prog w = .ok (.enter 9 args) w := callFunc_enter Try.func9 rfl (by decide) args w
theorem ent_10 (args : Array Value) (w : World) : (callFunc 10 args).run Try.prog w = .ok (.enter 10 args) w := callFunc_enter Try.func10 rfl (by decide) args w
theorem ent_11 (args : Array Value) (w : World) : (callFunc 11 args).run Try.prog w = .ok (.enter 11 args) w := callFunc_enter Try.func11 rfl (by decide) args w
theorem ent_12 (args : Array Value) (w : World) : (callFunc 12 args).run Try.prog w = .ok (.enter 12 args) w := callFunc_enter Try.func12 rfl (by decide) args w
theorem ent_13 (args : Array Value) (w : World) : (callFunc 13 args).run Try.prog w = .ok (.enter 13 args) w := callFunc_enter Try.func13 rfl (by decide) args w
theorem ent_14 (args : Array Value) (w : World) : (callFunc 14 args).run Try.prog w = .ok (.enter 14 args) w := callFunc_enter Try.func14 rfl (by decide) args w
theorem ent_15 (args : Array Value) (w : World) : (callFunc 15 args).run Try.prog w = .ok (.enter 15 args) w := callFunc_enter Try.func15 rfl (by decide) args w
theorem ent_16 (args : Array Value) (w : World) : (callFunc 16 args).run Try.prog w = .ok (.enter 16 args) w := callFunc_enter Try.func16 rfl (by decide) args w
theorem ent_17 (args : Array Value) (w : World) : (callFunc 17 args).run Try.prog w = .ok (.enter 17 args) w := callFunc_enter Try.func17 rfl (by decide) args w
theorem ent_18 (args : Array Value) (w : World) : (callFunc 18 args).run Try.prog w = .ok (.enter 18 args) w := callFunc_enter Try.func18 rfl (by decide) args w
theorem ent_19 (args : Array Value) (w : World) : (callFunc 19 args).run Try.prog w = .ok (.enter 19 args) w := callFunc_enter Try.func19 rfl (by decide) args w
theorem ent_20 (args : Array Value) (w : World) : (callFunc 20 args).run Try.prog w = .ok (.enter 20 args) w := callFunc_enter Try.func20 rfl (by decide) args w
theorem ent_21 (args : Array Value) (w : World) : (callFunc 21 args).run Try.prog w = .ok (.enter 21 args) w := callFunc_enter Try.func21 rfl (by decide) args w
theorem ent_22 (args : Array Value) (w : World) : (callFunc 22 args).run Try.prog w = .ok (.enter 22 args) w := callFunc_enter Try.func22 rfl (by decide) args w
theorem ent_23 (args : Array Value) (w : World) : (callFunc 23 args).run Try.prog w = .ok (.enter 23 args) w := callFunc_enter Try.func23 rfl (by decide) args w
theorem ent_24 (args : Array Value) (w : World) : (callFunc 24 args).run Try.prog w = .ok (.enter 24 args) w := callFunc_enter Try.func24 rfl (by decide) args w
theorem ent_25 (args : Array Value) (w : World) : (callFunc 25 args).run Try.prog w = .ok (.enter 25 args) w := callFunc_enter Try.func25 rfl (by decide) args w
theorem ent_26 (args : Array Value) (w : World) : (callFunc 26 args).run Try.prog w = .ok (.enter 26 args) w := callFunc_enter Try.func26 rfl (by decide) args w
theorem ent_27 (args : Array Value) (w : World) : (callFunc 27 args).run Try.prog w = .ok (.enter 27 args) w := callFunc_enter Try.func27 rfl (by decide) args w
theorem ent_28 (args : Array Value) (w : World) : (callFunc 28 args).run Try.prog w = .ok (.enter 28 args) w := callFunc_enter Try.func28 rfl (by decide) args w
theorem ent_29 (args : Array Value) (w : World) : (callFunc 29 args).run Try.prog w = .ok (.enter 29 args) w := callFunc_enter Try.func29 rfl (by decide) args w
theorem ent_30 (args : Array Value) (w : World) : (callFunc 30 args).run Try.prog w = .ok (.enter 30 args) w := callFunc_enter Try.func30 rfl (by decide) args w
theorem ent_31 (args : Array Value) (w : World) : (callFunc 31 args).run Try.prog w = .ok (.enter 31 args) w := callFunc_enter Try.func31 rfl (by decide) args w
theorem ent_32 (args : Array Value) (w : World) : (callFunc 32 args).run Try.prog w = .ok (.enter 32 args) w := callFunc_enter Try.func32 rfl (by decide) args w
theorem ent_33 (args : Array Value) (w : World) : (callFunc 33 args).run Try.prog w = .ok (.enter 33 args) w := callFunc_enter Try.func33 rfl (by decide) args w
theorem ent_34 (args : Array Value) (w : World) : (callFunc 34 args).run Try.prog w = .ok (.enter 34 args) w := callFunc_enter Try.func34 rfl (by decide) args w
theorem ent_35 (args : Array Value) (w : World) : (callFunc 35 args).run Try.prog w = .ok (.enter 35 args) w := callFunc_enter Try.func35 rfl (by decide) args w
theorem ent_36 (args : Array Value) (w : World) : (callFunc 36 args).run Try.prog w = .ok (.enter 36 args) w := callFunc_enter Try.func36 rfl (by decide) args w
theorem ent_37 (args : Array Value) (w : World) : (callFunc 37 args).run Try.prog w = .ok (.enter 37 args) w := callFunc_enter Try.func37 rfl (by decide) args w
theorem ent_38 (args : Array Value) (w : World) : (callFunc 38 args).run Try.prog w = .ok (.enter 38 args) w := callFunc_enter Try.func38 rfl (by decide) args w
theorem ent_39 (args : Array Value) (w : World) : (callFunc 39 args).run Try.prog w = .ok (.enter 39 args) w := callFunc_enter Try.func39 rfl (by decide) args w
theorem ent_40 (args : Array Value) (w : World) : (callFunc 40 args).run Try.prog w = .ok (.enter 40 args) w := callFunc_enter Try.func40 rfl (by decide) args w
theorem ent_41 (args : Array Value) (w : World) : (callFunc 41 args).run Try.prog w = .ok (.enter 41 args) w := callFunc_enter Try.func41 rfl (by decide) args w
theorem ent_42 (args : Array Value) (w : World) : (callFunc 42 args).run Try.prog w = .ok (.enter 42 args) w := callFunc_enter Try.func42 rfl (by decide) args w
theorem ent_43 (args : Array Value) (w : World) : (callFunc 43 args).run Try.prog w = .ok (.enter 43 args) w := callFunc_enter Try.func43 rfl (by decide) args w
theorem ent_44 (args : Array Value) (w : World) : (callFunc 44 args).run Try.prog w = .ok (.enter 44 args) w := callFunc_enter Try.func44 rfl (by decide) args w
theorem ent_45 (args : Array Value) (w : World) : (callFunc 45 args).run Try.prog w = .ok (.enter 45 args) w := callFunc_enter Try.func45 rfl (by decide) args w
theorem ent_46 (args : Array Value) (w : World) : (callFunc 46 args).run Try.prog w = .ok (.enter 46 args) w := callFunc_enter Try.func46 rfl (by decide) args w
theorem ent_47 (args : Array Value) (w : World) : (callFunc 47 args).run Try.prog w = .ok (.enter 47 args) w := callFunc_enter Try.func47 rfl (by decide) args w
theorem ent_48 (args : Array Value) (w : World) : (callFunc 48 args).run Try.prog w = .ok (.enter 48 args) w := callFunc_enter Try.func48 rfl (by decide) args w
theorem ent_49 (args : Array Value) (w : World) : (callFunc 49 args).run Try.prog w = .ok (.enter 49 args) w := callFunc_enter Try.func49 rfl (by decide) args w
theorem ent_50 (args : Array Value) (w : World) : (callFunc 50 args).run Try.prog w = .ok (.enter 50 args) w := callFunc_enter Try.func50 rfl (by decide) args w
theorem ent_52 (args : Array Value) (w : World) : (callFunc 52 args).run Try.prog w = .ok (.enter 52 args) w := callFunc_enter Try.func52 rfl (by decide) args w
theorem ent_53 (args : Array Value) (w : World) : (callFunc 53 args).run Try.prog w = .ok (.enter 53 args) w := callFunc_enter Try.func53 rfl (by decide) args w
theorem ent_54 (args : Array Value) (w : World) : (callFunc 54 args).run Try.prog w = .ok (.enter 54 args) w := callFunc_enter Try.func54 rfl (by decide) args w
theorem ent_55 (args : Array Value) (w : World) : (callFunc 55 args).run Try.prog w = .ok (.enter 55 args) w := callFunc_enter Try.func55 rfl (by decide) args w
theorem ent_56 (args : Array Value) (w : World) : (callFunc 56 args).run Try.prog w = .ok (.enter 56 args) w := callFunc_enter Try.func56 rfl (by decide) args w
theorem ent_57 (args : Array Value) (w : World) : (callFunc 57 args).run Try.prog w = .ok (.enter 57 args) w := callFunc_enter Try.func57 rfl (by decide) args w
theorem ent_58 (args : Array Value) (w : World) : (callFunc 58 args).run Try.prog w = .ok (.enter 58 args) w := callFunc_enter Try.func58 rfl (by decide) args w
theorem ent_59 (args : Array Value) (w : World) : (callFunc 59 args).run Try.prog w = .ok (.enter 59 args) w := callFunc_enter Try.func59 rfl (by decide) args w
theorem ent_60 (args : Array Value) (w : World) : (callFunc 60 args).run Try.prog w = .ok (.enter 60 args) w := callFunc_enter Try.func60 rfl (by decide) args w
theorem ent_61 (args : Array Value) (w : World) : (callFunc 61 args).run Try.prog w = .ok (.enter 61 args) w := callFunc_enter Try.func61 rfl (by decide) args w
theorem ent_62 (args : Array Value) (w : World) : (callFunc 62 args).run Try.prog w = .ok (.enter 62 args) w := callFunc_enter Try.func62 rfl (by decide) args w
theorem ent_63 (args : Array Value) (w : World) : (callFunc 63 args).run Try.prog w = .ok (.enter 63 args) w := callFunc_enter Try.func63 rfl (by decide) args w
end Go.Proofs.Ythfelkjklnhdiaa


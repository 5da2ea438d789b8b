/- Facts on the types of the program, each asked of its table by the kernel. Laid by program. -/
import Derived.Test.YtcfadhjiijngmaaOps
import Derived.Test.YtcfadhjiijngmaaOps2
import Derived.Test.YtcfadhjiijngmaaMem
import Derived.Test.YtcfadhjiijngmaaEq
import Derived.Test.YtcfadhjiijngmaaProg
import Derived.KernelRfl
namespace Go.Proofs.Ytcfadhjiijngmaa
open Go Go.RowKit Bx Go.Proofs
theorem mixed : Try.prog.follows .mixedOrders = true := by kernel_rfl
theorem one_1 : oneOk Try.prog 1 = true := by kernel_rfl
theorem siz_1 : sizeIs Try.prog 1 1 = true := by kernel_rfl
theorem zero_1 : zeroOf Try.prog 1 = some [.nilFunc] := by kernel_rfl
theorem one_2 : oneOk Try.prog 2 = true := by kernel_rfl
theorem siz_2 : sizeIs Try.prog 2 1 = true := by kernel_rfl
theorem zero_2 : zeroOf Try.prog 2 = some [.int .i64 0] := by kernel_rfl
theorem one_3 : oneOk Try.prog 3 = true := by kernel_rfl
theorem siz_3 : sizeIs Try.prog 3 1 = true := by kernel_rfl
theorem zero_3 : zeroOf Try.prog 3 = some [.int .i64 0] := by kernel_rfl
theorem one_4 : oneOk Try.prog 4 = true := by kernel_rfl
theorem siz_4 : sizeIs Try.prog 4 1 = true := by kernel_rfl
theorem zero_4 : zeroOf Try.prog 4 = some [.bool false] := by kernel_rfl
theorem one_5 : oneOk Try.prog 5 = true := by kernel_rfl
theorem siz_5 : sizeIs Try.prog 5 1 = true := by kernel_rfl
theorem zero_5 : zeroOf Try.prog 5 = some [.int .u8 0] := by kernel_rfl
theorem one_6 : oneOk Try.prog 6 = true := by kernel_rfl
theorem siz_6 : sizeIs Try.prog 6 1 = true := by kernel_rfl
theorem zero_6 : zeroOf Try.prog 6 = some [.int .u8 0] := by kernel_rfl
theorem agg_7 : aggOk Try.prog 7 4 = true := by kernel_rfl
theorem siz_7 : sizeIs Try.prog 7 4 = true := by kernel_rfl
theorem fld_7_0 : fieldOk Try.prog 7 0 0 = true := by kernel_rfl
theorem fld_7_1 : fieldOk Try.prog 7 1 1 = true := by kernel_rfl
theorem fld_7_2 : fieldOk Try.prog 7 2 2 = true := by kernel_rfl
theorem fld_7_3 : fieldOk Try.prog 7 3 3 = true := by kernel_rfl
theorem zero_7 : zeroOf Try.prog 7 = some [.int .i64 0, .int .i64 0, .bool false, .int .u8 0] := by kernel_rfl
theorem plc_7 : placesOf Try.prog 7 = some [(0, 1), (1, 1), (2, 1), (3, 1)] := by kernel_rfl
theorem agg_8 : aggOk Try.prog 8 4 = true := by kernel_rfl
theorem siz_8 : sizeIs Try.prog 8 4 = true := by kernel_rfl
theorem fld_8_0 : fieldOk Try.prog 8 0 0 = true := by kernel_rfl
theorem fld_8_1 : fieldOk Try.prog 8 1 1 = true := by kernel_rfl
theorem fld_8_2 : fieldOk Try.prog 8 2 2 = true := by kernel_rfl
theorem fld_8_3 : fieldOk Try.prog 8 3 3 = true := by kernel_rfl
theorem zero_8 : zeroOf Try.prog 8 = some [.int .i64 0, .int .i64 0, .bool false, .int .u8 0] := by kernel_rfl
theorem plc_8 : placesOf Try.prog 8 = some [(0, 1), (1, 1), (2, 1), (3, 1)] := by kernel_rfl
theorem one_9 : oneOk Try.prog 9 = true := by kernel_rfl
theorem siz_9 : sizeIs Try.prog 9 1 = true := by kernel_rfl
theorem und_9 : Try.prog.underlying 9 = some .string := by kernel_rfl
theorem zero_9 : zeroOf Try.prog 9 = some [.string ⟨#[]⟩] := by kernel_rfl
theorem one_10 : oneOk Try.prog 10 = true := by kernel_rfl
theorem siz_10 : sizeIs Try.prog 10 1 = true := by kernel_rfl
theorem und_10 : Try.prog.underlying 10 = some .string := by kernel_rfl
theorem zero_10 : zeroOf Try.prog 10 = some [.string ⟨#[]⟩] := by kernel_rfl
theorem one_11 : oneOk Try.prog 11 = true := by kernel_rfl
theorem siz_11 : sizeIs Try.prog 11 1 = true := by kernel_rfl
theorem und_11 : Try.prog.underlying 11 = some .string := by kernel_rfl
theorem zero_11 : zeroOf Try.prog 11 = some [.string ⟨#[]⟩] := by kernel_rfl
theorem one_12 : oneOk Try.prog 12 = true := by kernel_rfl
theorem siz_12 : sizeIs Try.prog 12 1 = true := by kernel_rfl
theorem zero_12 : zeroOf Try.prog 12 = some [.int .u64 0] := by kernel_rfl
theorem agg_13 : aggOk Try.prog 13 2 = true := by kernel_rfl
theorem siz_13 : sizeIs Try.prog 13 2 = true := by kernel_rfl
theorem fld_13_0 : fieldOk Try.prog 13 0 0 = true := by kernel_rfl
theorem fld_13_1 : fieldOk Try.prog 13 1 1 = true := by kernel_rfl
theorem zero_13 : zeroOf Try.prog 13 = some [.string ⟨#[]⟩, .int .u64 0] := by kernel_rfl
theorem plc_13 : placesOf Try.prog 13 = some [(0, 1), (1, 1)] := by kernel_rfl
theorem agg_14 : aggOk Try.prog 14 2 = true := by kernel_rfl
theorem siz_14 : sizeIs Try.prog 14 2 = true := by kernel_rfl
theorem fld_14_0 : fieldOk Try.prog 14 0 0 = true := by kernel_rfl
theorem fld_14_1 : fieldOk Try.prog 14 1 1 = true := by kernel_rfl
theorem zero_14 : zeroOf Try.prog 14 = some [.string ⟨#[]⟩, .int .u64 0] := by kernel_rfl
theorem plc_14 : placesOf Try.prog 14 = some [(0, 1), (1, 1)] := by kernel_rfl
theorem one_15 : oneOk Try.prog 15 = true := by kernel_rfl
theorem siz_15 : sizeIs Try.prog 15 1 = true := by kernel_rfl
theorem zero_15 : zeroOf Try.prog 15 = some [.pointer none] := by kernel_rfl
theorem one_16 : oneOk Try.prog 16 = true := by kernel_rfl
theorem siz_16 : sizeIs Try.prog 16 1 = true := by kernel_rfl
theorem zero_16 : zeroOf Try.prog 16 = some [.pointer none] := by kernel_rfl
theorem one_17 : oneOk Try.prog 17 = true := by kernel_rfl
theorem siz_17 : sizeIs Try.prog 17 1 = true := by kernel_rfl
theorem zero_17 : zeroOf Try.prog 17 = some [.pointer none] := by kernel_rfl
theorem agg_18 : aggOk Try.prog 18 1 = true := by kernel_rfl
theorem siz_18 : sizeIs Try.prog 18 1 = true := by kernel_rfl
theorem fld_18_0 : fieldOk Try.prog 18 0 0 = true := by kernel_rfl
theorem zero_18 : zeroOf Try.prog 18 = some [.pointer none] := by kernel_rfl
theorem plc_18 : placesOf Try.prog 18 = some [(0, 1)] := by kernel_rfl
theorem agg_19 : aggOk Try.prog 19 1 = true := by kernel_rfl
theorem siz_19 : sizeIs Try.prog 19 1 = true := by kernel_rfl
theorem fld_19_0 : fieldOk Try.prog 19 0 0 = true := by kernel_rfl
theorem zero_19 : zeroOf Try.prog 19 = some [.pointer none] := by kernel_rfl
theorem plc_19 : placesOf Try.prog 19 = some [(0, 1)] := by kernel_rfl
theorem one_20 : oneOk Try.prog 20 = true := by kernel_rfl
theorem siz_20 : sizeIs Try.prog 20 1 = true := by kernel_rfl
theorem zero_20 : zeroOf Try.prog 20 = some [.nilIface] := by kernel_rfl
theorem one_21 : oneOk Try.prog 21 = true := by kernel_rfl
theorem siz_21 : sizeIs Try.prog 21 1 = true := by kernel_rfl
theorem zero_21 : zeroOf Try.prog 21 = some [.int .i32 0] := by kernel_rfl
theorem one_22 : oneOk Try.prog 22 = true := by kernel_rfl
theorem siz_22 : sizeIs Try.prog 22 1 = true := by kernel_rfl
theorem sl_22 : sliceOk Try.prog 22 69 6 = true := by kernel_rfl
theorem el_22 : elemOk Try.prog 22 69 6 64 = true := by kernel_rfl
theorem und_22 : Try.prog.underlying 22 = some (.slice 69) := by kernel_rfl
theorem zero_22 : zeroOf Try.prog 22 = some [.slice none 0 0] := by kernel_rfl
theorem one_23 : oneOk Try.prog 23 = true := by kernel_rfl
theorem siz_23 : sizeIs Try.prog 23 1 = true := by kernel_rfl
theorem sl_23 : sliceOk Try.prog 23 88 2 = true := by kernel_rfl
theorem el_23 : elemOk Try.prog 23 88 2 16 = true := by kernel_rfl
theorem und_23 : Try.prog.underlying 23 = some (.slice 88) := by kernel_rfl
theorem zero_23 : zeroOf Try.prog 23 = some [.slice none 0 0] := by kernel_rfl
theorem one_24 : oneOk Try.prog 24 = true := by kernel_rfl
theorem siz_24 : sizeIs Try.prog 24 1 = true := by kernel_rfl
theorem sl_24 : sliceOk Try.prog 24 74 5 = true := by kernel_rfl
theorem el_24 : elemOk Try.prog 24 74 5 40 = true := by kernel_rfl
theorem und_24 : Try.prog.underlying 24 = some (.slice 74) := by kernel_rfl
theorem zero_24 : zeroOf Try.prog 24 = some [.slice none 0 0] := by kernel_rfl
theorem agg_25 : aggOk Try.prog 25 4 = true := by kernel_rfl
theorem siz_25 : sizeIs Try.prog 25 4 = true := by kernel_rfl
theorem fld_25_0 : fieldOk Try.prog 25 0 0 = true := by kernel_rfl
theorem fld_25_1 : fieldOk Try.prog 25 1 1 = true := by kernel_rfl
theorem fld_25_2 : fieldOk Try.prog 25 2 2 = true := by kernel_rfl
theorem fld_25_3 : fieldOk Try.prog 25 3 3 = true := by kernel_rfl
theorem zero_25 : zeroOf Try.prog 25 = some [.int .i64 0, .slice none 0 0, .slice none 0 0, .slice none 0 0] := by kernel_rfl
theorem plc_25 : placesOf Try.prog 25 = some [(0, 1), (1, 1), (2, 1), (3, 1)] := by kernel_rfl
theorem agg_26 : aggOk Try.prog 26 4 = true := by kernel_rfl
theorem siz_26 : sizeIs Try.prog 26 4 = true := by kernel_rfl
theorem fld_26_0 : fieldOk Try.prog 26 0 0 = true := by kernel_rfl
theorem fld_26_1 : fieldOk Try.prog 26 1 1 = true := by kernel_rfl
theorem fld_26_2 : fieldOk Try.prog 26 2 2 = true := by kernel_rfl
theorem fld_26_3 : fieldOk Try.prog 26 3 3 = true := by kernel_rfl
theorem zero_26 : zeroOf Try.prog 26 = some [.int .i64 0, .slice none 0 0, .slice none 0 0, .slice none 0 0] := by kernel_rfl
theorem plc_26 : placesOf Try.prog 26 = some [(0, 1), (1, 1), (2, 1), (3, 1)] := by kernel_rfl
theorem one_27 : oneOk Try.prog 27 = true := by kernel_rfl
theorem siz_27 : sizeIs Try.prog 27 1 = true := by kernel_rfl
theorem zero_27 : zeroOf Try.prog 27 = some [.nilFunc] := by kernel_rfl
theorem agg_28 : aggOk Try.prog 28 3 = true := by kernel_rfl
theorem siz_28 : sizeIs Try.prog 28 3 = true := by kernel_rfl
theorem fld_28_0 : fieldOk Try.prog 28 0 0 = true := by kernel_rfl
theorem fld_28_1 : fieldOk Try.prog 28 1 1 = true := by kernel_rfl
theorem fld_28_2 : fieldOk Try.prog 28 2 2 = true := by kernel_rfl
theorem zero_28 : zeroOf Try.prog 28 = some [.int .i64 0, .int .i64 0, .int .i64 0] := by kernel_rfl
theorem flat_28 : flatOk Try.prog 28 3 = true := by kernel_rfl
theorem plc_28 : placesOf Try.prog 28 = some [(0, 1), (1, 1), (2, 1)] := by kernel_rfl
theorem agg_29 : aggOk Try.prog 29 3 = true := by kernel_rfl
theorem siz_29 : sizeIs Try.prog 29 3 = true := by kernel_rfl
theorem fld_29_0 : fieldOk Try.prog 29 0 0 = true := by kernel_rfl
theorem fld_29_1 : fieldOk Try.prog 29 1 1 = true := by kernel_rfl
theorem fld_29_2 : fieldOk Try.prog 29 2 2 = true := by kernel_rfl
theorem zero_29 : zeroOf Try.prog 29 = some [.int .i64 0, .int .i64 0, .int .i64 0] := by kernel_rfl
theorem flat_29 : flatOk Try.prog 29 3 = true := by kernel_rfl
theorem plc_29 : placesOf Try.prog 29 = some [(0, 1), (1, 1), (2, 1)] := by kernel_rfl
theorem one_30 : oneOk Try.prog 30 = true := by kernel_rfl
theorem siz_30 : sizeIs Try.prog 30 1 = true := by kernel_rfl
theorem zero_30 : zeroOf Try.prog 30 = some [.int .i64 0] := by kernel_rfl
theorem one_32 : oneOk Try.prog 32 = true := by kernel_rfl
theorem siz_32 : sizeIs Try.prog 32 1 = true := by kernel_rfl
theorem zero_32 : zeroOf Try.prog 32 = some [.nilFunc] := by kernel_rfl
theorem one_34 : oneOk Try.prog 34 = true := by kernel_rfl
theorem siz_34 : sizeIs Try.prog 34 1 = true := by kernel_rfl
theorem zero_34 : zeroOf Try.prog 34 = some [.nilFunc] := by kernel_rfl
theorem one_35 : oneOk Try.prog 35 = true := by kernel_rfl
theorem siz_35 : sizeIs Try.prog 35 1 = true := by kernel_rfl
theorem zero_35 : zeroOf Try.prog 35 = some [.nilFunc] := by kernel_rfl
theorem one_36 : oneOk Try.prog 36 = true := by kernel_rfl
theorem siz_36 : sizeIs Try.prog 36 1 = true := by kernel_rfl
theorem zero_36 : zeroOf Try.prog 36 = some [.nilFunc] := by kernel_rfl
theorem one_37 : oneOk Try.prog 37 = true := by kernel_rfl
theorem siz_37 : sizeIs Try.prog 37 1 = true := by kernel_rfl
theorem zero_37 : zeroOf Try.prog 37 = some [.nilFunc] := by kernel_rfl
theorem one_38 : oneOk Try.prog 38 = true := by kernel_rfl
theorem siz_38 : sizeIs Try.prog 38 1 = true := by kernel_rfl
theorem zero_38 : zeroOf Try.prog 38 = some [.nilFunc] := by kernel_rfl
theorem one_39 : oneOk Try.prog 39 = true := by kernel_rfl
theorem siz_39 : sizeIs Try.prog 39 1 = true := by kernel_rfl
theorem zero_39 : zeroOf Try.prog 39 = some [.nilFunc] := by kernel_rfl
theorem one_40 : oneOk Try.prog 40 = true := by kernel_rfl
theorem siz_40 : sizeIs Try.prog 40 1 = true := by kernel_rfl
theorem sl_40 : sliceOk Try.prog 40 29 3 = true := by kernel_rfl
theorem el_40 : elemOk Try.prog 40 29 3 24 = true := by kernel_rfl
theorem und_40 : Try.prog.underlying 40 = some (.slice 29) := by kernel_rfl
theorem zero_40 : zeroOf Try.prog 40 = some [.slice none 0 0] := by kernel_rfl
theorem one_41 : oneOk Try.prog 41 = true := by kernel_rfl
theorem siz_41 : sizeIs Try.prog 41 1 = true := by kernel_rfl
theorem zero_41 : zeroOf Try.prog 41 = some [.nilFunc] := by kernel_rfl
theorem one_42 : oneOk Try.prog 42 = true := by kernel_rfl
theorem siz_42 : sizeIs Try.prog 42 1 = true := by kernel_rfl
theorem zero_42 : zeroOf Try.prog 42 = some [.nilFunc] := by kernel_rfl
theorem one_43 : oneOk Try.prog 43 = true := by kernel_rfl
theorem siz_43 : sizeIs Try.prog 43 1 = true := by kernel_rfl
theorem sl_43 : sliceOk Try.prog 43 78 3 = true := by kernel_rfl
theorem el_43 : elemOk Try.prog 43 78 3 40 = true := by kernel_rfl
theorem und_43 : Try.prog.underlying 43 = some (.slice 78) := by kernel_rfl
theorem zero_43 : zeroOf Try.prog 43 = some [.slice none 0 0] := by kernel_rfl
theorem one_44 : oneOk Try.prog 44 = true := by kernel_rfl
theorem siz_44 : sizeIs Try.prog 44 1 = true := by kernel_rfl
theorem sl_44 : sliceOk Try.prog 44 81 1 = true := by kernel_rfl
theorem el_44 : elemOk Try.prog 44 81 1 24 = true := by kernel_rfl
theorem und_44 : Try.prog.underlying 44 = some (.slice 81) := by kernel_rfl
theorem zero_44 : zeroOf Try.prog 44 = some [.slice none 0 0] := by kernel_rfl
theorem agg_45 : aggOk Try.prog 45 2 = true := by kernel_rfl
theorem siz_45 : sizeIs Try.prog 45 2 = true := by kernel_rfl
theorem fld_45_0 : fieldOk Try.prog 45 0 0 = true := by kernel_rfl
theorem fld_45_1 : fieldOk Try.prog 45 1 1 = true := by kernel_rfl
theorem zero_45 : zeroOf Try.prog 45 = some [.slice none 0 0, .slice none 0 0] := by kernel_rfl
theorem plc_45 : placesOf Try.prog 45 = some [(0, 1), (1, 1)] := by kernel_rfl
theorem agg_46 : aggOk Try.prog 46 2 = true := by kernel_rfl
theorem siz_46 : sizeIs Try.prog 46 2 = true := by kernel_rfl
theorem fld_46_0 : fieldOk Try.prog 46 0 0 = true := by kernel_rfl
theorem fld_46_1 : fieldOk Try.prog 46 1 1 = true := by kernel_rfl
theorem zero_46 : zeroOf Try.prog 46 = some [.slice none 0 0, .slice none 0 0] := by kernel_rfl
theorem plc_46 : placesOf Try.prog 46 = some [(0, 1), (1, 1)] := by kernel_rfl
theorem one_47 : oneOk Try.prog 47 = true := by kernel_rfl
theorem siz_47 : sizeIs Try.prog 47 1 = true := by kernel_rfl
theorem zero_47 : zeroOf Try.prog 47 = some [.nilFunc] := by kernel_rfl
theorem one_49 : oneOk Try.prog 49 = true := by kernel_rfl
theorem siz_49 : sizeIs Try.prog 49 1 = true := by kernel_rfl
theorem zero_49 : zeroOf Try.prog 49 = some [.nilFunc] := by kernel_rfl
theorem one_50 : oneOk Try.prog 50 = true := by kernel_rfl
theorem siz_50 : sizeIs Try.prog 50 1 = true := by kernel_rfl
theorem zero_50 : zeroOf Try.prog 50 = some [.nilFunc] := by kernel_rfl
theorem one_51 : oneOk Try.prog 51 = true := by kernel_rfl
theorem siz_51 : sizeIs Try.prog 51 1 = true := by kernel_rfl
theorem zero_51 : zeroOf Try.prog 51 = some [.nilFunc] := by kernel_rfl
theorem one_52 : oneOk Try.prog 52 = true := by kernel_rfl
theorem siz_52 : sizeIs Try.prog 52 1 = true := by kernel_rfl
theorem zero_52 : zeroOf Try.prog 52 = some [.int .u64 0] := by kernel_rfl
theorem one_53 : oneOk Try.prog 53 = true := by kernel_rfl
theorem siz_53 : sizeIs Try.prog 53 1 = true := by kernel_rfl
theorem zero_53 : zeroOf Try.prog 53 = some [.nilFunc] := by kernel_rfl
theorem one_54 : oneOk Try.prog 54 = true := by kernel_rfl
theorem siz_54 : sizeIs Try.prog 54 1 = true := by kernel_rfl
theorem zero_54 : zeroOf Try.prog 54 = some [.nilFunc] := by kernel_rfl
theorem one_55 : oneOk Try.prog 55 = true := by kernel_rfl
theorem siz_55 : sizeIs Try.prog 55 1 = true := by kernel_rfl
theorem sl_55 : sliceOk Try.prog 55 56 1 = true := by kernel_rfl
theorem el_55 : elemOk Try.prog 55 56 1 4 = true := by kernel_rfl
theorem und_55 : Try.prog.underlying 55 = some (.slice 56) := by kernel_rfl
theorem zero_55 : zeroOf Try.prog 55 = some [.slice none 0 0] := by kernel_rfl
theorem one_56 : oneOk Try.prog 56 = true := by kernel_rfl
theorem siz_56 : sizeIs Try.prog 56 1 = true := by kernel_rfl
theorem zero_56 : zeroOf Try.prog 56 = some [.int .u32 0] := by kernel_rfl
theorem agg_57 : aggOk Try.prog 57 8 = true := by kernel_rfl
theorem siz_57 : sizeIs Try.prog 57 8 = true := by kernel_rfl
theorem arr_57 : arrOk Try.prog 57 56 1 8 = true := by kernel_rfl
theorem zero_57 : zeroOf Try.prog 57 = some [.int .u32 0, .int .u32 0, .int .u32 0, .int .u32 0, .int .u32 0, .int .u32 0, .int .u32 0, .int .u32 0] := by kernel_rfl
theorem flat_57 : flatOk Try.prog 57 8 = true := by kernel_rfl
theorem agg_58 : aggOk Try.prog 58 9 = true := by kernel_rfl
theorem siz_58 : sizeIs Try.prog 58 9 = true := by kernel_rfl
theorem fld_58_0 : fieldOk Try.prog 58 0 0 = true := by kernel_rfl
theorem fld_58_1 : fieldOk Try.prog 58 1 1 = true := by kernel_rfl
theorem zero_58 : zeroOf Try.prog 58 = some [.int .i64 0, .int .u32 0, .int .u32 0, .int .u32 0, .int .u32 0, .int .u32 0, .int .u32 0, .int .u32 0, .int .u32 0] := by kernel_rfl
theorem flat_58 : flatOk Try.prog 58 9 = true := by kernel_rfl
theorem plc_58 : placesOf Try.prog 58 = some [(0, 1), (1, 8)] := by kernel_rfl
theorem agg_59 : aggOk Try.prog 59 9 = true := by kernel_rfl
theorem siz_59 : sizeIs Try.prog 59 9 = true := by kernel_rfl
theorem fld_59_0 : fieldOk Try.prog 59 0 0 = true := by kernel_rfl
theorem fld_59_1 : fieldOk Try.prog 59 1 1 = true := by kernel_rfl
theorem zero_59 : zeroOf Try.prog 59 = some [.int .i64 0, .int .u32 0, .int .u32 0, .int .u32 0, .int .u32 0, .int .u32 0, .int .u32 0, .int .u32 0, .int .u32 0] := by kernel_rfl
theorem flat_59 : flatOk Try.prog 59 9 = true := by kernel_rfl
theorem plc_59 : placesOf Try.prog 59 = some [(0, 1), (1, 8)] := by kernel_rfl
theorem one_60 : oneOk Try.prog 60 = true := by kernel_rfl
theorem siz_60 : sizeIs Try.prog 60 1 = true := by kernel_rfl
theorem zero_60 : zeroOf Try.prog 60 = some [.pointer none] := by kernel_rfl
theorem one_61 : oneOk Try.prog 61 = true := by kernel_rfl
theorem siz_61 : sizeIs Try.prog 61 1 = true := by kernel_rfl
theorem zero_61 : zeroOf Try.prog 61 = some [.pointer none] := by kernel_rfl
theorem one_63 : oneOk Try.prog 63 = true := by kernel_rfl
theorem siz_63 : sizeIs Try.prog 63 1 = true := by kernel_rfl
theorem zero_63 : zeroOf Try.prog 63 = some [.nilFunc] := by kernel_rfl
theorem one_64 : oneOk Try.prog 64 = true := by kernel_rfl
theorem siz_64 : sizeIs Try.prog 64 1 = true := by kernel_rfl
theorem sl_64 : sliceOk Try.prog 64 107 6 = true := by kernel_rfl
theorem el_64 : elemOk Try.prog 64 107 6 48 = true := by kernel_rfl
theorem und_64 : Try.prog.underlying 64 = some (.slice 107) := by kernel_rfl
theorem zero_64 : zeroOf Try.prog 64 = some [.slice none 0 0] := by kernel_rfl
theorem one_66 : oneOk Try.prog 66 = true := by kernel_rfl
theorem siz_66 : sizeIs Try.prog 66 1 = true := by kernel_rfl
theorem zero_66 : zeroOf Try.prog 66 = some [.nilFunc] := by kernel_rfl
theorem one_67 : oneOk Try.prog 67 = true := by kernel_rfl
theorem siz_67 : sizeIs Try.prog 67 1 = true := by kernel_rfl
theorem zero_67 : zeroOf Try.prog 67 = some [.nilFunc] := by kernel_rfl
theorem agg_68 : aggOk Try.prog 68 6 = true := by kernel_rfl
theorem siz_68 : sizeIs Try.prog 68 6 = true := by kernel_rfl
theorem fld_68_0 : fieldOk Try.prog 68 0 0 = true := by kernel_rfl
theorem fld_68_1 : fieldOk Try.prog 68 1 1 = true := by kernel_rfl
theorem fld_68_2 : fieldOk Try.prog 68 2 2 = true := by kernel_rfl
theorem fld_68_3 : fieldOk Try.prog 68 3 3 = true := by kernel_rfl
theorem fld_68_4 : fieldOk Try.prog 68 4 4 = true := by kernel_rfl
theorem fld_68_5 : fieldOk Try.prog 68 5 5 = true := by kernel_rfl
theorem zero_68 : zeroOf Try.prog 68 = some [.int .i64 0, .int .i64 0, .int .i64 0, .slice none 0 0, .int .i64 0, .int .i64 0] := by kernel_rfl
theorem plc_68 : placesOf Try.prog 68 = some [(0, 1), (1, 1), (2, 1), (3, 1), (4, 1), (5, 1)] := by kernel_rfl
theorem agg_69 : aggOk Try.prog 69 6 = true := by kernel_rfl
theorem siz_69 : sizeIs Try.prog 69 6 = true := by kernel_rfl
theorem fld_69_0 : fieldOk Try.prog 69 0 0 = true := by kernel_rfl
theorem fld_69_1 : fieldOk Try.prog 69 1 1 = true := by kernel_rfl
theorem fld_69_2 : fieldOk Try.prog 69 2 2 = true := by kernel_rfl
theorem fld_69_3 : fieldOk Try.prog 69 3 3 = true := by kernel_rfl
theorem fld_69_4 : fieldOk Try.prog 69 4 4 = true := by kernel_rfl
theorem fld_69_5 : fieldOk Try.prog 69 5 5 = true := by kernel_rfl
theorem zero_69 : zeroOf Try.prog 69 = some [.int .i64 0, .int .i64 0, .int .i64 0, .slice none 0 0, .int .i64 0, .int .i64 0] := by kernel_rfl
theorem plc_69 : placesOf Try.prog 69 = some [(0, 1), (1, 1), (2, 1), (3, 1), (4, 1), (5, 1)] := by kernel_rfl
theorem one_70 : oneOk Try.prog 70 = true := by kernel_rfl
theorem siz_70 : sizeIs Try.prog 70 1 = true := by kernel_rfl
theorem zero_70 : zeroOf Try.prog 70 = some [.nilFunc] := by kernel_rfl
theorem agg_71 : aggOk Try.prog 71 1 = true := by kernel_rfl
theorem siz_71 : sizeIs Try.prog 71 1 = true := by kernel_rfl
theorem fld_71_0 : fieldOk Try.prog 71 0 0 = true := by kernel_rfl
theorem zero_71 : zeroOf Try.prog 71 = some [.slice none 0 0] := by kernel_rfl
theorem plc_71 : placesOf Try.prog 71 = some [(0, 1)] := by kernel_rfl
theorem agg_72 : aggOk Try.prog 72 1 = true := by kernel_rfl
theorem siz_72 : sizeIs Try.prog 72 1 = true := by kernel_rfl
theorem fld_72_0 : fieldOk Try.prog 72 0 0 = true := by kernel_rfl
theorem zero_72 : zeroOf Try.prog 72 = some [.slice none 0 0] := by kernel_rfl
theorem plc_72 : placesOf Try.prog 72 = some [(0, 1)] := by kernel_rfl
theorem agg_73 : aggOk Try.prog 73 5 = true := by kernel_rfl
theorem siz_73 : sizeIs Try.prog 73 5 = true := by kernel_rfl
theorem fld_73_0 : fieldOk Try.prog 73 0 0 = true := by kernel_rfl
theorem fld_73_1 : fieldOk Try.prog 73 1 1 = true := by kernel_rfl
theorem fld_73_2 : fieldOk Try.prog 73 2 2 = true := by kernel_rfl
theorem fld_73_3 : fieldOk Try.prog 73 3 3 = true := by kernel_rfl
theorem fld_73_4 : fieldOk Try.prog 73 4 4 = true := by kernel_rfl
theorem zero_73 : zeroOf Try.prog 73 = some [.int .i64 0, .int .i64 0, .int .i64 0, .int .i64 0, .int .i64 0] := by kernel_rfl
theorem flat_73 : flatOk Try.prog 73 5 = true := by kernel_rfl
theorem plc_73 : placesOf Try.prog 73 = some [(0, 1), (1, 1), (2, 1), (3, 1), (4, 1)] := by kernel_rfl
theorem agg_74 : aggOk Try.prog 74 5 = true := by kernel_rfl
theorem siz_74 : sizeIs Try.prog 74 5 = true := by kernel_rfl
theorem fld_74_0 : fieldOk Try.prog 74 0 0 = true := by kernel_rfl
theorem fld_74_1 : fieldOk Try.prog 74 1 1 = true := by kernel_rfl
theorem fld_74_2 : fieldOk Try.prog 74 2 2 = true := by kernel_rfl
theorem fld_74_3 : fieldOk Try.prog 74 3 3 = true := by kernel_rfl
theorem fld_74_4 : fieldOk Try.prog 74 4 4 = true := by kernel_rfl
theorem zero_74 : zeroOf Try.prog 74 = some [.int .i64 0, .int .i64 0, .int .i64 0, .int .i64 0, .int .i64 0] := by kernel_rfl
theorem flat_74 : flatOk Try.prog 74 5 = true := by kernel_rfl
theorem plc_74 : placesOf Try.prog 74 = some [(0, 1), (1, 1), (2, 1), (3, 1), (4, 1)] := by kernel_rfl
theorem one_75 : oneOk Try.prog 75 = true := by kernel_rfl
theorem siz_75 : sizeIs Try.prog 75 1 = true := by kernel_rfl
theorem zero_75 : zeroOf Try.prog 75 = some [.nilFunc] := by kernel_rfl
theorem one_76 : oneOk Try.prog 76 = true := by kernel_rfl
theorem siz_76 : sizeIs Try.prog 76 1 = true := by kernel_rfl
theorem zero_76 : zeroOf Try.prog 76 = some [.nilFunc] := by kernel_rfl
theorem agg_77 : aggOk Try.prog 77 3 = true := by kernel_rfl
theorem siz_77 : sizeIs Try.prog 77 3 = true := by kernel_rfl
theorem fld_77_0 : fieldOk Try.prog 77 0 0 = true := by kernel_rfl
theorem fld_77_1 : fieldOk Try.prog 77 1 1 = true := by kernel_rfl
theorem fld_77_2 : fieldOk Try.prog 77 2 2 = true := by kernel_rfl
theorem zero_77 : zeroOf Try.prog 77 = some [.bool false, .int .i64 0, .slice none 0 0] := by kernel_rfl
theorem plc_77 : placesOf Try.prog 77 = some [(0, 1), (1, 1), (2, 1)] := by kernel_rfl
theorem agg_78 : aggOk Try.prog 78 3 = true := by kernel_rfl
theorem siz_78 : sizeIs Try.prog 78 3 = true := by kernel_rfl
theorem fld_78_0 : fieldOk Try.prog 78 0 0 = true := by kernel_rfl
theorem fld_78_1 : fieldOk Try.prog 78 1 1 = true := by kernel_rfl
theorem fld_78_2 : fieldOk Try.prog 78 2 2 = true := by kernel_rfl
theorem zero_78 : zeroOf Try.prog 78 = some [.bool false, .int .i64 0, .slice none 0 0] := by kernel_rfl
theorem plc_78 : placesOf Try.prog 78 = some [(0, 1), (1, 1), (2, 1)] := by kernel_rfl
theorem one_79 : oneOk Try.prog 79 = true := by kernel_rfl
theorem siz_79 : sizeIs Try.prog 79 1 = true := by kernel_rfl
theorem sl_79 : sliceOk Try.prog 79 55 1 = true := by kernel_rfl
theorem el_79 : elemOk Try.prog 79 55 1 24 = true := by kernel_rfl
theorem und_79 : Try.prog.underlying 79 = some (.slice 55) := by kernel_rfl
theorem zero_79 : zeroOf Try.prog 79 = some [.slice none 0 0] := by kernel_rfl
theorem agg_80 : aggOk Try.prog 80 1 = true := by kernel_rfl
theorem siz_80 : sizeIs Try.prog 80 1 = true := by kernel_rfl
theorem fld_80_0 : fieldOk Try.prog 80 0 0 = true := by kernel_rfl
theorem zero_80 : zeroOf Try.prog 80 = some [.slice none 0 0] := by kernel_rfl
theorem plc_80 : placesOf Try.prog 80 = some [(0, 1)] := by kernel_rfl
theorem agg_81 : aggOk Try.prog 81 1 = true := by kernel_rfl
theorem siz_81 : sizeIs Try.prog 81 1 = true := by kernel_rfl
theorem fld_81_0 : fieldOk Try.prog 81 0 0 = true := by kernel_rfl
theorem zero_81 : zeroOf Try.prog 81 = some [.slice none 0 0] := by kernel_rfl
theorem plc_81 : placesOf Try.prog 81 = some [(0, 1)] := by kernel_rfl
theorem one_82 : oneOk Try.prog 82 = true := by kernel_rfl
theorem siz_82 : sizeIs Try.prog 82 1 = true := by kernel_rfl
theorem zero_82 : zeroOf Try.prog 82 = some [.nilFunc] := by kernel_rfl
theorem one_83 : oneOk Try.prog 83 = true := by kernel_rfl
theorem siz_83 : sizeIs Try.prog 83 1 = true := by kernel_rfl
theorem zero_83 : zeroOf Try.prog 83 = some [.nilFunc] := by kernel_rfl
theorem one_84 : oneOk Try.prog 84 = true := by kernel_rfl
theorem siz_84 : sizeIs Try.prog 84 1 = true := by kernel_rfl
theorem zero_84 : zeroOf Try.prog 84 = some [.nilFunc] := by kernel_rfl
theorem one_85 : oneOk Try.prog 85 = true := by kernel_rfl
theorem siz_85 : sizeIs Try.prog 85 1 = true := by kernel_rfl
theorem zero_85 : zeroOf Try.prog 85 = some [.nilFunc] := by kernel_rfl
theorem one_86 : oneOk Try.prog 86 = true := by kernel_rfl
theorem siz_86 : sizeIs Try.prog 86 1 = true := by kernel_rfl
theorem zero_86 : zeroOf Try.prog 86 = some [.nilFunc] := by kernel_rfl
theorem agg_87 : aggOk Try.prog 87 2 = true := by kernel_rfl
theorem siz_87 : sizeIs Try.prog 87 2 = true := by kernel_rfl
theorem fld_87_0 : fieldOk Try.prog 87 0 0 = true := by kernel_rfl
theorem fld_87_1 : fieldOk Try.prog 87 1 1 = true := by kernel_rfl
theorem zero_87 : zeroOf Try.prog 87 = some [.int .i64 0, .int .i64 0] := by kernel_rfl
theorem flat_87 : flatOk Try.prog 87 2 = true := by kernel_rfl
theorem plc_87 : placesOf Try.prog 87 = some [(0, 1), (1, 1)] := by kernel_rfl
theorem agg_88 : aggOk Try.prog 88 2 = true := by kernel_rfl
theorem siz_88 : sizeIs Try.prog 88 2 = true := by kernel_rfl
theorem fld_88_0 : fieldOk Try.prog 88 0 0 = true := by kernel_rfl
theorem fld_88_1 : fieldOk Try.prog 88 1 1 = true := by kernel_rfl
theorem zero_88 : zeroOf Try.prog 88 = some [.int .i64 0, .int .i64 0] := by kernel_rfl
theorem flat_88 : flatOk Try.prog 88 2 = true := by kernel_rfl
theorem plc_88 : placesOf Try.prog 88 = some [(0, 1), (1, 1)] := by kernel_rfl
theorem one_89 : oneOk Try.prog 89 = true := by kernel_rfl
theorem siz_89 : sizeIs Try.prog 89 1 = true := by kernel_rfl
theorem zero_89 : zeroOf Try.prog 89 = some [.nilFunc] := by kernel_rfl
theorem one_90 : oneOk Try.prog 90 = true := by kernel_rfl
theorem siz_90 : sizeIs Try.prog 90 1 = true := by kernel_rfl
theorem sl_90 : sliceOk Try.prog 90 98 2 = true := by kernel_rfl
theorem el_90 : elemOk Try.prog 90 98 2 16 = true := by kernel_rfl
theorem und_90 : Try.prog.underlying 90 = some (.slice 98) := by kernel_rfl
theorem zero_90 : zeroOf Try.prog 90 = some [.slice none 0 0] := by kernel_rfl
theorem agg_91 : aggOk Try.prog 91 2 = true := by kernel_rfl
theorem siz_91 : sizeIs Try.prog 91 2 = true := by kernel_rfl
theorem fld_91_0 : fieldOk Try.prog 91 0 0 = true := by kernel_rfl
theorem fld_91_1 : fieldOk Try.prog 91 1 1 = true := by kernel_rfl
theorem zero_91 : zeroOf Try.prog 91 = some [.int .i64 0, .slice none 0 0] := by kernel_rfl
theorem plc_91 : placesOf Try.prog 91 = some [(0, 1), (1, 1)] := by kernel_rfl
theorem agg_92 : aggOk Try.prog 92 2 = true := by kernel_rfl
theorem siz_92 : sizeIs Try.prog 92 2 = true := by kernel_rfl
theorem fld_92_0 : fieldOk Try.prog 92 0 0 = true := by kernel_rfl
theorem fld_92_1 : fieldOk Try.prog 92 1 1 = true := by kernel_rfl
theorem zero_92 : zeroOf Try.prog 92 = some [.int .i64 0, .slice none 0 0] := by kernel_rfl
theorem plc_92 : placesOf Try.prog 92 = some [(0, 1), (1, 1)] := by kernel_rfl
theorem one_93 : oneOk Try.prog 93 = true := by kernel_rfl
theorem siz_93 : sizeIs Try.prog 93 1 = true := by kernel_rfl
theorem zero_93 : zeroOf Try.prog 93 = some [.nilFunc] := by kernel_rfl
theorem one_94 : oneOk Try.prog 94 = true := by kernel_rfl
theorem siz_94 : sizeIs Try.prog 94 1 = true := by kernel_rfl
theorem zero_94 : zeroOf Try.prog 94 = some [.nilFunc] := by kernel_rfl
theorem one_95 : oneOk Try.prog 95 = true := by kernel_rfl
theorem siz_95 : sizeIs Try.prog 95 1 = true := by kernel_rfl
theorem zero_95 : zeroOf Try.prog 95 = some [.pointer none] := by kernel_rfl
theorem agg_96 : aggOk Try.prog 96 10 = true := by kernel_rfl
theorem siz_96 : sizeIs Try.prog 96 10 = true := by kernel_rfl
theorem arr_96 : arrOk Try.prog 96 92 2 5 = true := by kernel_rfl
theorem zero_96 : zeroOf Try.prog 96 = some [.int .i64 0, .slice none 0 0, .int .i64 0, .slice none 0 0, .int .i64 0, .slice none 0 0, .int .i64 0, .slice none 0 0, .int .i64 0, .slice none 0 0] := by kernel_rfl
theorem agg_97 : aggOk Try.prog 97 2 = true := by kernel_rfl
theorem siz_97 : sizeIs Try.prog 97 2 = true := by kernel_rfl
theorem fld_97_0 : fieldOk Try.prog 97 0 0 = true := by kernel_rfl
theorem fld_97_1 : fieldOk Try.prog 97 1 1 = true := by kernel_rfl
theorem zero_97 : zeroOf Try.prog 97 = some [.int .i64 0, .nilFunc] := by kernel_rfl
theorem plc_97 : placesOf Try.prog 97 = some [(0, 1), (1, 1)] := by kernel_rfl
theorem agg_98 : aggOk Try.prog 98 2 = true := by kernel_rfl
theorem siz_98 : sizeIs Try.prog 98 2 = true := by kernel_rfl
theorem fld_98_0 : fieldOk Try.prog 98 0 0 = true := by kernel_rfl
theorem fld_98_1 : fieldOk Try.prog 98 1 1 = true := by kernel_rfl
theorem zero_98 : zeroOf Try.prog 98 = some [.int .i64 0, .nilFunc] := by kernel_rfl
theorem plc_98 : placesOf Try.prog 98 = some [(0, 1), (1, 1)] := by kernel_rfl
theorem one_99 : oneOk Try.prog 99 = true := by kernel_rfl
theorem siz_99 : sizeIs Try.prog 99 1 = true := by kernel_rfl
theorem zero_99 : zeroOf Try.prog 99 = some [.nilFunc] := by kernel_rfl
theorem one_100 : oneOk Try.prog 100 = true := by kernel_rfl
theorem siz_100 : sizeIs Try.prog 100 1 = true := by kernel_rfl
theorem zero_100 : zeroOf Try.prog 100 = some [.nilFunc] := by kernel_rfl
theorem one_101 : oneOk Try.prog 101 = true := by kernel_rfl
theorem siz_101 : sizeIs Try.prog 101 1 = true := by kernel_rfl
theorem zero_101 : zeroOf Try.prog 101 = some [.nilFunc] := by kernel_rfl
theorem one_102 : oneOk Try.prog 102 = true := by kernel_rfl
theorem siz_102 : sizeIs Try.prog 102 1 = true := by kernel_rfl
theorem zero_102 : zeroOf Try.prog 102 = some [.nilFunc] := by kernel_rfl
theorem one_103 : oneOk Try.prog 103 = true := by kernel_rfl
theorem siz_103 : sizeIs Try.prog 103 1 = true := by kernel_rfl
theorem zero_103 : zeroOf Try.prog 103 = some [.nilFunc] := by kernel_rfl
theorem one_105 : oneOk Try.prog 105 = true := by kernel_rfl
theorem siz_105 : sizeIs Try.prog 105 1 = true := by kernel_rfl
theorem zero_105 : zeroOf Try.prog 105 = some [.nilFunc] := by kernel_rfl
theorem agg_106 : aggOk Try.prog 106 6 = true := by kernel_rfl
theorem siz_106 : sizeIs Try.prog 106 6 = true := by kernel_rfl
theorem fld_106_0 : fieldOk Try.prog 106 0 0 = true := by kernel_rfl
theorem fld_106_1 : fieldOk Try.prog 106 1 1 = true := by kernel_rfl
theorem fld_106_2 : fieldOk Try.prog 106 2 2 = true := by kernel_rfl
theorem fld_106_3 : fieldOk Try.prog 106 3 3 = true := by kernel_rfl
theorem fld_106_4 : fieldOk Try.prog 106 4 4 = true := by kernel_rfl
theorem fld_106_5 : fieldOk Try.prog 106 5 5 = true := by kernel_rfl
theorem zero_106 : zeroOf Try.prog 106 = some [.int .u64 0, .int .i64 0, .int .i64 0, .int .i64 0, .int .i64 0, .int .i64 0] := by kernel_rfl
theorem flat_106 : flatOk Try.prog 106 6 = true := by kernel_rfl
theorem plc_106 : placesOf Try.prog 106 = some [(0, 1), (1, 1), (2, 1), (3, 1), (4, 1), (5, 1)] := by kernel_rfl
theorem agg_107 : aggOk Try.prog 107 6 = true := by kernel_rfl
theorem siz_107 : sizeIs Try.prog 107 6 = true := by kernel_rfl
theorem fld_107_0 : fieldOk Try.prog 107 0 0 = true := by kernel_rfl
theorem fld_107_1 : fieldOk Try.prog 107 1 1 = true := by kernel_rfl
theorem fld_107_2 : fieldOk Try.prog 107 2 2 = true := by kernel_rfl
theorem fld_107_3 : fieldOk Try.prog 107 3 3 = true := by kernel_rfl
theorem fld_107_4 : fieldOk Try.prog 107 4 4 = true := by kernel_rfl
theorem fld_107_5 : fieldOk Try.prog 107 5 5 = true := by kernel_rfl
theorem zero_107 : zeroOf Try.prog 107 = some [.int .u64 0, .int .i64 0, .int .i64 0, .int .i64 0, .int .i64 0, .int .i64 0] := by kernel_rfl
theorem flat_107 : flatOk Try.prog 107 6 = true := by kernel_rfl
theorem plc_107 : placesOf Try.prog 107 = some [(0, 1), (1, 1), (2, 1), (3, 1), (4, 1), (5, 1)] := by kernel_rfl
theorem one_108 : oneOk Try.prog 108 = true := by kernel_rfl
theorem siz_108 : sizeIs Try.prog 108 1 = true := by kernel_rfl
theorem zero_108 : zeroOf Try.prog 108 = some [.nilFunc] := by kernel_rfl
theorem one_109 : oneOk Try.prog 109 = true := by kernel_rfl
theorem siz_109 : sizeIs Try.prog 109 1 = true := by kernel_rfl
theorem zero_109 : zeroOf Try.prog 109 = some [.nilFunc] := by kernel_rfl
theorem one_110 : oneOk Try.prog 110 = true := by kernel_rfl
theorem siz_110 : sizeIs Try.prog 110 1 = true := by kernel_rfl
theorem zero_110 : zeroOf Try.prog 110 = some [.nilFunc] := by kernel_rfl
theorem one_111 : oneOk Try.prog 111 = true := by kernel_rfl
theorem siz_111 : sizeIs Try.prog 111 1 = true := by kernel_rfl
theorem zero_111 : zeroOf Try.prog 111 = some [.nilFunc] := by kernel_rfl
theorem one_112 : oneOk Try.prog 112 = true := by kernel_rfl
theorem siz_112 : sizeIs Try.prog 112 1 = true := by kernel_rfl
theorem zero_112 : zeroOf Try.prog 112 = some [.nilFunc] := by kernel_rfl
theorem one_113 : oneOk Try.prog 113 = true := by kernel_rfl
theorem siz_113 : sizeIs Try.prog 113 1 = true := by kernel_rfl
theorem zero_113 : zeroOf Try.prog 113 = some [.nilFunc] := by kernel_rfl
theorem one_115 : oneOk Try.prog 115 = true := by kernel_rfl
theorem siz_115 : sizeIs Try.prog 115 1 = true := by kernel_rfl
theorem zero_115 : zeroOf Try.prog 115 = some [.nilFunc] := by kernel_rfl
theorem one_116 : oneOk Try.prog 116 = true := by kernel_rfl
theorem siz_116 : sizeIs Try.prog 116 1 = true := by kernel_rfl
theorem zero_116 : zeroOf Try.prog 116 = some [.nilFunc] := by kernel_rfl
theorem one_117 : oneOk Try.prog 117 = true := by kernel_rfl
theorem siz_117 : sizeIs Try.prog 117 1 = true := by kernel_rfl
theorem zero_117 : zeroOf Try.prog 117 = some [.pointer none] := by kernel_rfl
theorem one_118 : oneOk Try.prog 118 = true := by kernel_rfl
theorem siz_118 : sizeIs Try.prog 118 1 = true := by kernel_rfl
theorem zero_118 : zeroOf Try.prog 118 = some [.nilFunc] := by kernel_rfl
theorem agg_119 : aggOk Try.prog 119 20 = true := by kernel_rfl
theorem siz_119 : sizeIs Try.prog 119 20 = true := by kernel_rfl
theorem fld_119_0 : fieldOk Try.prog 119 0 0 = true := by kernel_rfl
theorem fld_119_1 : fieldOk Try.prog 119 1 4 = true := by kernel_rfl
theorem fld_119_2 : fieldOk Try.prog 119 2 5 = true := by kernel_rfl
theorem fld_119_3 : fieldOk Try.prog 119 3 6 = true := by kernel_rfl
theorem fld_119_4 : fieldOk Try.prog 119 4 8 = true := by kernel_rfl
theorem fld_119_5 : fieldOk Try.prog 119 5 17 = true := by kernel_rfl
theorem fld_119_6 : fieldOk Try.prog 119 6 18 = true := by kernel_rfl
theorem fld_119_7 : fieldOk Try.prog 119 7 19 = true := by kernel_rfl
theorem zero_119 : zeroOf Try.prog 119 = some [.int .i64 0, .slice none 0 0, .slice none 0 0, .slice none 0 0, .int .i64 0, .pointer none, .slice none 0 0, .slice none 0 0, .int .i64 0, .int .u32 0, .int .u32 0, .int .u32 0, .int .u32 0, .int .u32 0, .int .u32 0, .int .u32 0, .int .u32 0, .int .i64 0, .int .u32 0, .slice none 0 0] := by kernel_rfl
theorem plc_119 : placesOf Try.prog 119 = some [(0, 4), (4, 1), (5, 1), (6, 2), (8, 9), (17, 1), (18, 1), (19, 1)] := by kernel_rfl
theorem agg_120 : aggOk Try.prog 120 20 = true := by kernel_rfl
theorem siz_120 : sizeIs Try.prog 120 20 = true := by kernel_rfl
theorem fld_120_0 : fieldOk Try.prog 120 0 0 = true := by kernel_rfl
theorem fld_120_1 : fieldOk Try.prog 120 1 4 = true := by kernel_rfl
theorem fld_120_2 : fieldOk Try.prog 120 2 5 = true := by kernel_rfl
theorem fld_120_3 : fieldOk Try.prog 120 3 6 = true := by kernel_rfl
theorem fld_120_4 : fieldOk Try.prog 120 4 8 = true := by kernel_rfl
theorem fld_120_5 : fieldOk Try.prog 120 5 17 = true := by kernel_rfl
theorem fld_120_6 : fieldOk Try.prog 120 6 18 = true := by kernel_rfl
theorem fld_120_7 : fieldOk Try.prog 120 7 19 = true := by kernel_rfl
theorem zero_120 : zeroOf Try.prog 120 = some [.int .i64 0, .slice none 0 0, .slice none 0 0, .slice none 0 0, .int .i64 0, .pointer none, .slice none 0 0, .slice none 0 0, .int .i64 0, .int .u32 0, .int .u32 0, .int .u32 0, .int .u32 0, .int .u32 0, .int .u32 0, .int .u32 0, .int .u32 0, .int .i64 0, .int .u32 0, .slice none 0 0] := by kernel_rfl
theorem plc_120 : placesOf Try.prog 120 = some [(0, 4), (4, 1), (5, 1), (6, 2), (8, 9), (17, 1), (18, 1), (19, 1)] := by kernel_rfl
theorem one_121 : oneOk Try.prog 121 = true := by kernel_rfl
theorem siz_121 : sizeIs Try.prog 121 1 = true := by kernel_rfl
theorem zero_121 : zeroOf Try.prog 121 = some [.nilFunc] := by kernel_rfl
theorem one_123 : oneOk Try.prog 123 = true := by kernel_rfl
theorem siz_123 : sizeIs Try.prog 123 1 = true := by kernel_rfl
theorem zero_123 : zeroOf Try.prog 123 = some [.map none] := by kernel_rfl
theorem one_124 : oneOk Try.prog 124 = true := by kernel_rfl
theorem siz_124 : sizeIs Try.prog 124 1 = true := by kernel_rfl
theorem zero_124 : zeroOf Try.prog 124 = some [.nilFunc] := by kernel_rfl
theorem one_125 : oneOk Try.prog 125 = true := by kernel_rfl
theorem siz_125 : sizeIs Try.prog 125 1 = true := by kernel_rfl
theorem zero_125 : zeroOf Try.prog 125 = some [.nilFunc] := by kernel_rfl
theorem one_127 : oneOk Try.prog 127 = true := by kernel_rfl
theorem siz_127 : sizeIs Try.prog 127 1 = true := by kernel_rfl
theorem zero_127 : zeroOf Try.prog 127 = some [.nilFunc] := by kernel_rfl
theorem one_128 : oneOk Try.prog 128 = true := by kernel_rfl
theorem siz_128 : sizeIs Try.prog 128 1 = true := by kernel_rfl
theorem zero_128 : zeroOf Try.prog 128 = some [.nilFunc] := by kernel_rfl
theorem one_129 : oneOk Try.prog 129 = true := by kernel_rfl
theorem siz_129 : sizeIs Try.prog 129 1 = true := by kernel_rfl
theorem zero_129 : zeroOf Try.prog 129 = some [.nilFunc] := by kernel_rfl
theorem one_130 : oneOk Try.prog 130 = true := by kernel_rfl
theorem siz_130 : sizeIs Try.prog 130 1 = true := by kernel_rfl
theorem zero_130 : zeroOf Try.prog 130 = some [.nilFunc] := by kernel_rfl
theorem one_131 : oneOk Try.prog 131 = true := by kernel_rfl
theorem siz_131 : sizeIs Try.prog 131 1 = true := by kernel_rfl
theorem zero_131 : zeroOf Try.prog 131 = some [.nilFunc] := by kernel_rfl
theorem one_132 : oneOk Try.prog 132 = true := by kernel_rfl
theorem siz_132 : sizeIs Try.prog 132 1 = true := by kernel_rfl
theorem zero_132 : zeroOf Try.prog 132 = some [.nilFunc] := by kernel_rfl
theorem one_133 : oneOk Try.prog 133 = true := by kernel_rfl
theorem siz_133 : sizeIs Try.prog 133 1 = true := by kernel_rfl
theorem zero_133 : zeroOf Try.prog 133 = some [.nilFunc] := by kernel_rfl
theorem one_134 : oneOk Try.prog 134 = true := by kernel_rfl
theorem siz_134 : sizeIs Try.prog 134 1 = true := by kernel_rfl
theorem zero_134 : zeroOf Try.prog 134 = some [.nilFunc] := by kernel_rfl
theorem one_135 : oneOk Try.prog 135 = true := by kernel_rfl
theorem siz_135 : sizeIs Try.prog 135 1 = true := by kernel_rfl
theorem zero_135 : zeroOf Try.prog 135 = some [.nilFunc] := by kernel_rfl
theorem one_136 : oneOk Try.prog 136 = true := by kernel_rfl
theorem siz_136 : sizeIs Try.prog 136 1 = true := by kernel_rfl
theorem zero_136 : zeroOf Try.prog 136 = some [.nilFunc] := by kernel_rfl
theorem one_137 : oneOk Try.prog 137 = true := by kernel_rfl
theorem siz_137 : sizeIs Try.prog 137 1 = true := by kernel_rfl
theorem zero_137 : zeroOf Try.prog 137 = some [.nilFunc] := by kernel_rfl
theorem agg_138 : aggOk Try.prog 138 1 = true := by kernel_rfl
theorem siz_138 : sizeIs Try.prog 138 1 = true := by kernel_rfl
theorem fld_138_0 : fieldOk Try.prog 138 0 0 = true := by kernel_rfl
theorem zero_138 : zeroOf Try.prog 138 = some [.slice none 0 0] := by kernel_rfl
theorem plc_138 : placesOf Try.prog 138 = some [(0, 1)] := by kernel_rfl
theorem agg_139 : aggOk Try.prog 139 1 = true := by kernel_rfl
theorem siz_139 : sizeIs Try.prog 139 1 = true := by kernel_rfl
theorem fld_139_0 : fieldOk Try.prog 139 0 0 = true := by kernel_rfl
theorem zero_139 : zeroOf Try.prog 139 = some [.slice none 0 0] := by kernel_rfl
theorem plc_139 : placesOf Try.prog 139 = some [(0, 1)] := by kernel_rfl
theorem one_140 : oneOk Try.prog 140 = true := by kernel_rfl
theorem siz_140 : sizeIs Try.prog 140 1 = true := by kernel_rfl
theorem zero_140 : zeroOf Try.prog 140 = some [.nilFunc] := by kernel_rfl
theorem one_141 : oneOk Try.prog 141 = true := by kernel_rfl
theorem siz_141 : sizeIs Try.prog 141 1 = true := by kernel_rfl
theorem zero_141 : zeroOf Try.prog 141 = some [.nilFunc] := by kernel_rfl
theorem one_142 : oneOk Try.prog 142 = true := by kernel_rfl
theorem siz_142 : sizeIs Try.prog 142 1 = true := by kernel_rfl
theorem zero_142 : zeroOf Try.prog 142 = some [.nilFunc] := by kernel_rfl
theorem one_143 : oneOk Try.prog 143 = true := by kernel_rfl
theorem siz_143 : sizeIs Try.prog 143 1 = true := by kernel_rfl
theorem zero_143 : zeroOf Try.prog 143 = some [.nilFunc] := by kernel_rfl
theorem one_144 : oneOk Try.prog 144 = true := by kernel_rfl
theorem siz_144 : sizeIs Try.prog 144 1 = true := by kernel_rfl
theorem zero_144 : zeroOf Try.prog 144 = some [.nilFunc] := by kernel_rfl
theorem one_145 : oneOk Try.prog 145 = true := by kernel_rfl
theorem siz_145 : sizeIs Try.prog 145 1 = true := by kernel_rfl
theorem zero_145 : zeroOf Try.prog 145 = some [.nilFunc] := by kernel_rfl
theorem one_146 : oneOk Try.prog 146 = true := by kernel_rfl
theorem siz_146 : sizeIs Try.prog 146 1 = true := by kernel_rfl
theorem zero_146 : zeroOf Try.prog 146 = some [.nilFunc] := by kernel_rfl
theorem one_147 : oneOk Try.prog 147 = true := by kernel_rfl
theorem siz_147 : sizeIs Try.prog 147 1 = true := by kernel_rfl
theorem sl_147 : sliceOk Try.prog 147 3 1 = true := by kernel_rfl
theorem el_147 : elemOk Try.prog 147 3 1 8 = true := by kernel_rfl
theorem und_147 : Try.prog.underlying 147 = some (.slice 3) := by kernel_rfl
theorem zero_147 : zeroOf Try.prog 147 = some [.slice none 0 0] := by kernel_rfl
theorem one_148 : oneOk Try.prog 148 = true := by kernel_rfl
theorem siz_148 : sizeIs Try.prog 148 1 = true := by kernel_rfl
theorem zero_148 : zeroOf Try.prog 148 = some [.nilFunc] := by kernel_rfl
theorem one_149 : oneOk Try.prog 149 = true := by kernel_rfl
theorem siz_149 : sizeIs Try.prog 149 1 = true := by kernel_rfl
theorem zero_149 : zeroOf Try.prog 149 = some [.nilFunc] := by kernel_rfl
theorem one_152 : oneOk Try.prog 152 = true := by kernel_rfl
theorem siz_152 : sizeIs Try.prog 152 1 = true := by kernel_rfl
theorem zero_152 : zeroOf Try.prog 152 = some [.nilFunc] := by kernel_rfl
theorem one_154 : oneOk Try.prog 154 = true := by kernel_rfl
theorem siz_154 : sizeIs Try.prog 154 1 = true := by kernel_rfl
theorem zero_154 : zeroOf Try.prog 154 = some [.nilFunc] := by kernel_rfl
theorem one_156 : oneOk Try.prog 156 = true := by kernel_rfl
theorem siz_156 : sizeIs Try.prog 156 1 = true := by kernel_rfl
theorem zero_156 : zeroOf Try.prog 156 = some [.nilFunc] := by kernel_rfl
theorem one_157 : oneOk Try.prog 157 = true := by kernel_rfl
theorem siz_157 : sizeIs Try.prog 157 1 = true := by kernel_rfl
theorem zero_157 : zeroOf Try.prog 157 = some [.nilFunc] := by kernel_rfl
theorem one_159 : oneOk Try.prog 159 = true := by kernel_rfl
theorem siz_159 : sizeIs Try.prog 159 1 = true := by kernel_rfl
theorem zero_159 : zeroOf Try.prog 159 = some [.nilFunc] := by kernel_rfl
theorem one_160 : oneOk Try.prog 160 = true := by kernel_rfl
theorem siz_160 : sizeIs Try.prog 160 1 = true := by kernel_rfl
theorem zero_160 : zeroOf Try.prog 160 = some [.nilFunc] := by kernel_rfl
theorem one_161 : oneOk Try.prog 161 = true := by kernel_rfl
theorem siz_161 : sizeIs Try.prog 161 1 = true := by kernel_rfl
theorem zero_161 : zeroOf Try.prog 161 = some [.nilFunc] := by kernel_rfl
theorem one_162 : oneOk Try.prog 162 = true := by kernel_rfl
theorem siz_162 : sizeIs Try.prog 162 1 = true := by kernel_rfl
theorem zero_162 : zeroOf Try.prog 162 = some [.nilFunc] := by kernel_rfl
theorem one_164 : oneOk Try.prog 164 = true := by kernel_rfl
theorem siz_164 : sizeIs Try.prog 164 1 = true := by kernel_rfl
theorem zero_164 : zeroOf Try.prog 164 = some [.nilFunc] := by kernel_rfl
theorem one_165 : oneOk Try.prog 165 = true := by kernel_rfl
theorem siz_165 : sizeIs Try.prog 165 1 = true := by kernel_rfl
theorem zero_165 : zeroOf Try.prog 165 = some [.nilFunc] := by kernel_rfl
theorem one_166 : oneOk Try.prog 166 = true := by kernel_rfl
theorem siz_166 : sizeIs Try.prog 166 1 = true := by kernel_rfl
theorem zero_166 : zeroOf Try.prog 166 = some [.nilFunc] := by kernel_rfl
theorem agg_167 : aggOk Try.prog 167 4 = true := by kernel_rfl
theorem siz_167 : sizeIs Try.prog 167 4 = true := by kernel_rfl
theorem fld_167_0 : fieldOk Try.prog 167 0 0 = true := by kernel_rfl
theorem fld_167_1 : fieldOk Try.prog 167 1 1 = true := by kernel_rfl
theorem fld_167_2 : fieldOk Try.prog 167 2 2 = true := by kernel_rfl
theorem fld_167_3 : fieldOk Try.prog 167 3 3 = true := by kernel_rfl
theorem zero_167 : zeroOf Try.prog 167 = some [.pointer none, .pointer none, .pointer none, .string ⟨#[]⟩] := by kernel_rfl
theorem plc_167 : placesOf Try.prog 167 = some [(0, 1), (1, 1), (2, 1), (3, 1)] := by kernel_rfl
theorem agg_168 : aggOk Try.prog 168 4 = true := by kernel_rfl
theorem siz_168 : sizeIs Try.prog 168 4 = true := by kernel_rfl
theorem fld_168_0 : fieldOk Try.prog 168 0 0 = true := by kernel_rfl
theorem fld_168_1 : fieldOk Try.prog 168 1 1 = true := by kernel_rfl
theorem fld_168_2 : fieldOk Try.prog 168 2 2 = true := by kernel_rfl
theorem fld_168_3 : fieldOk Try.prog 168 3 3 = true := by kernel_rfl
theorem zero_168 : zeroOf Try.prog 168 = some [.pointer none, .pointer none, .pointer none, .string ⟨#[]⟩] := by kernel_rfl
theorem plc_168 : placesOf Try.prog 168 = some [(0, 1), (1, 1), (2, 1), (3, 1)] := by kernel_rfl
theorem agg_169 : aggOk Try.prog 169 0 = true := by kernel_rfl
theorem siz_169 : sizeIs Try.prog 169 0 = true := by kernel_rfl
theorem arr_169 : arrOk Try.prog 169 16 1 0 = true := by kernel_rfl
theorem zero_169 : zeroOf Try.prog 169 = some [] := by kernel_rfl
theorem agg_170 : aggOk Try.prog 170 0 = true := by kernel_rfl
theorem siz_170 : sizeIs Try.prog 170 0 = true := by kernel_rfl
theorem zero_170 : zeroOf Try.prog 170 = some [] := by kernel_rfl
theorem plc_170 : placesOf Try.prog 170 = some [(0, 0)] := by kernel_rfl
theorem agg_171 : aggOk Try.prog 171 0 = true := by kernel_rfl
theorem siz_171 : sizeIs Try.prog 171 0 = true := by kernel_rfl
theorem zero_171 : zeroOf Try.prog 171 = some [] := by kernel_rfl
theorem plc_171 : placesOf Try.prog 171 = some [(0, 0)] := by kernel_rfl
theorem one_172 : oneOk Try.prog 172 = true := by kernel_rfl
theorem siz_172 : sizeIs Try.prog 172 1 = true := by kernel_rfl
theorem zero_172 : zeroOf Try.prog 172 = some [.int .u8 0] := by kernel_rfl
theorem one_173 : oneOk Try.prog 173 = true := by kernel_rfl
theorem siz_173 : sizeIs Try.prog 173 1 = true := by kernel_rfl
theorem zero_173 : zeroOf Try.prog 173 = some [.int .u8 0] := by kernel_rfl
theorem one_174 : oneOk Try.prog 174 = true := by kernel_rfl
theorem siz_174 : sizeIs Try.prog 174 1 = true := by kernel_rfl
theorem zero_174 : zeroOf Try.prog 174 = some [.nilFunc] := by kernel_rfl
theorem one_175 : oneOk Try.prog 175 = true := by kernel_rfl
theorem siz_175 : sizeIs Try.prog 175 1 = true := by kernel_rfl
theorem zero_175 : zeroOf Try.prog 175 = some [.pointer none] := by kernel_rfl
theorem one_176 : oneOk Try.prog 176 = true := by kernel_rfl
theorem siz_176 : sizeIs Try.prog 176 1 = true := by kernel_rfl
theorem zero_176 : zeroOf Try.prog 176 = some [.int .i32 0] := by kernel_rfl
theorem one_177 : oneOk Try.prog 177 = true := by kernel_rfl
theorem siz_177 : sizeIs Try.prog 177 1 = true := by kernel_rfl
theorem zero_177 : zeroOf Try.prog 177 = some [.int .i32 0] := by kernel_rfl
theorem agg_178 : aggOk Try.prog 178 11 = true := by kernel_rfl
theorem siz_178 : sizeIs Try.prog 178 11 = true := by kernel_rfl
theorem fld_178_0 : fieldOk Try.prog 178 0 0 = true := by kernel_rfl
theorem fld_178_1 : fieldOk Try.prog 178 1 1 = true := by kernel_rfl
theorem fld_178_2 : fieldOk Try.prog 178 2 2 = true := by kernel_rfl
theorem fld_178_3 : fieldOk Try.prog 178 3 3 = true := by kernel_rfl
theorem fld_178_4 : fieldOk Try.prog 178 4 4 = true := by kernel_rfl
theorem fld_178_5 : fieldOk Try.prog 178 5 5 = true := by kernel_rfl
theorem fld_178_6 : fieldOk Try.prog 178 6 6 = true := by kernel_rfl
theorem fld_178_7 : fieldOk Try.prog 178 7 7 = true := by kernel_rfl
theorem fld_178_8 : fieldOk Try.prog 178 8 8 = true := by kernel_rfl
theorem fld_178_9 : fieldOk Try.prog 178 9 9 = true := by kernel_rfl
theorem fld_178_10 : fieldOk Try.prog 178 10 10 = true := by kernel_rfl
theorem zero_178 : zeroOf Try.prog 178 = some [.int .u64 0, .int .u64 0, .int .u32 0, .int .u8 0, .int .u8 0, .int .u8 0, .int .u8 0, .nilFunc, .pointer none, .int .i32 0, .int .i32 0] := by kernel_rfl
theorem plc_178 : placesOf Try.prog 178 = some [(0, 1), (1, 1), (2, 1), (3, 1), (4, 1), (5, 1), (6, 1), (7, 1), (8, 1), (9, 1), (10, 1)] := by kernel_rfl
theorem agg_179 : aggOk Try.prog 179 11 = true := by kernel_rfl
theorem siz_179 : sizeIs Try.prog 179 11 = true := by kernel_rfl
theorem fld_179_0 : fieldOk Try.prog 179 0 0 = true := by kernel_rfl
theorem fld_179_1 : fieldOk Try.prog 179 1 1 = true := by kernel_rfl
theorem fld_179_2 : fieldOk Try.prog 179 2 2 = true := by kernel_rfl
theorem fld_179_3 : fieldOk Try.prog 179 3 3 = true := by kernel_rfl
theorem fld_179_4 : fieldOk Try.prog 179 4 4 = true := by kernel_rfl
theorem fld_179_5 : fieldOk Try.prog 179 5 5 = true := by kernel_rfl
theorem fld_179_6 : fieldOk Try.prog 179 6 6 = true := by kernel_rfl
theorem fld_179_7 : fieldOk Try.prog 179 7 7 = true := by kernel_rfl
theorem fld_179_8 : fieldOk Try.prog 179 8 8 = true := by kernel_rfl
theorem fld_179_9 : fieldOk Try.prog 179 9 9 = true := by kernel_rfl
theorem fld_179_10 : fieldOk Try.prog 179 10 10 = true := by kernel_rfl
theorem zero_179 : zeroOf Try.prog 179 = some [.int .u64 0, .int .u64 0, .int .u32 0, .int .u8 0, .int .u8 0, .int .u8 0, .int .u8 0, .nilFunc, .pointer none, .int .i32 0, .int .i32 0] := by kernel_rfl
theorem plc_179 : placesOf Try.prog 179 = some [(0, 1), (1, 1), (2, 1), (3, 1), (4, 1), (5, 1), (6, 1), (7, 1), (8, 1), (9, 1), (10, 1)] := by kernel_rfl
theorem one_180 : oneOk Try.prog 180 = true := by kernel_rfl
theorem siz_180 : sizeIs Try.prog 180 1 = true := by kernel_rfl
theorem ent_3 (args : Array Value) (w : World) : (callFunc 3 args).run Try.prog w = .ok (.enter 3 args) w := callFunc_enter Try.func3 rfl (by decide) args w
theorem ent_4 (args : Array Value) (w : World) : (callFunc 4 args).run Try.prog w = .ok (.enter 4 args) w := callFunc_enter Try.func4 rfl (by decide) args w
theorem ent_5 (args : Array Value) (w : World) : (callFunc 5 args).run Try.prog w = .ok (.enter 5 args) w := callFunc_enter Try.func5 rfl (by decide) args w
theorem ent_6 (args : Array Value) (w : World) : (callFunc 6 args).run Try.prog w = .ok (.enter 6 args) w := callFunc_enter Try.func6 rfl (by decide) args w
theorem ent_7 (args : Array Value) (w : World) : (callFunc 7 args).run Try.prog w = .ok (.enter 7 args) w := callFunc_enter Try.func7 rfl (by decide) args w
theorem ent_8 (args : Array Value) (w : World) : (callFunc 8 args).run Try.prog w = .ok (.enter 8 args) w := callFunc_enter Try.func8 rfl (by decide) args w
theorem ent_9 (args : Array Value) (w : World) : (callFunc 9 args).run Try.prog w = .ok (.enter 9 args) w := callFunc_enter Try.func9 rfl (by decide) args w
theorem ent_10 (args : Array Value) (w : World) : (callFunc 10 args).run Try.prog w = .ok (.enter 10 args) w := callFunc_enter Try.func10 rfl (by decide) args w
theorem ent_11 (args : Array Value) (w : World) : (callFunc 11 args).run Try.prog w = .ok (.enter 11 args) w := callFunc_enter Try.func11 rfl (by decide) args w
theorem ent_12 (args : Array Value) (w : World) : (callFunc 12 args).run Try.prog w = .ok (.enter 12 args) w := callFunc_enter Try.func12 rfl (by decide) args w
theorem ent_13 (args : Array Value) (w : World) : (callFunc 13 args).run Try.prog w = .ok (.enter 13 args) w := callFunc_enter Try.func13 rfl (by decide) args w
theorem ent_14 (args : Array Value) (w : World) : (callFunc 14 args).run Try.prog w = .ok (.enter 14 args) w := callFunc_enter Try.func14 rfl (by decide) args w
theorem ent_15 (args : Array Value) (w : World) : (callFunc 15 args).run Try.prog w = .ok (.enter 15 args) w := callFunc_enter Try.func15 rfl (by decide) args w
theorem ent_16 (args : Array Value) (w : World) : (callFunc 16 args).run Try.prog w = .ok (.enter 16 args) w := callFunc_enter Try.func16 rfl (by decide) args w
theorem ent_17 (args : Array Value) (w : World) : (callFunc 17 args).run Try.prog w = .ok (.enter 17 args) w := callFunc_enter Try.func17 rfl (by decide) args w
theorem ent_18 (args : Array Value) (w : World) : (callFunc 18 args).run Try.prog w = .ok (.enter 18 args) w := callFunc_enter Try.func18 rfl (by decide) args w
theorem ent_19 (args : Array Value) (w : World) : (callFunc 19 args).run Try.prog w = .ok (.enter 19 args) w := callFunc_enter Try.func19 rfl (by decide) args w
theorem ent_20 (args : Array Value) (w : World) : (callFunc 20 args).run Try.prog w = .ok (.enter 20 args) w := callFunc_enter Try.func20 rfl (by decide) args w
theorem ent_21 (args : Array Value) (w : World) : (callFunc 21 args).run Try.prog w = .ok (.enter 21 args) w := callFunc_enter Try.func21 rfl (by decide) args w
theorem ent_22 (args : Array Value) (w : World) : (callFunc 22 args).run Try.prog w = .ok (.enter 22 args) w := callFunc_enter Try.func22 rfl (by decide) args w
theorem ent_23 (args : Array Value) (w : World) : (callFunc 23 args).run Try.prog w = .ok (.enter 23 args) w := callFunc_enter Try.func23 rfl (by decide) args w
theorem ent_24 (args : Array Value) (w : World) : (callFunc 24 args).run Try.prog w = .ok (.enter 24 args) w := callFunc_enter Try.func24 rfl (by decide) args w
theorem ent_25 (args : Array Value) (w : World) : (callFunc 25 args).run Try.prog w = .ok (.enter 25 args) w := callFunc_enter Try.func25 rfl (by decide) args w
theorem ent_26 (args : Array Value) (w : World) : (callFunc 26 args).run Try.prog w = .ok (.enter 26 args) w := callFunc_enter Try.func26 rfl (by decide) args w
theorem ent_27 (args : Array Value) (w : World) : (callFunc 27 args).run Try.prog w = .ok (.enter 27 args) w := callFunc_enter Try.func27 rfl (by decide) args w
theorem ent_28 (args : Array Value) (w : World) : (callFunc 28 args).run Try.prog w = .ok (.enter 28 args) w := callFunc_enter Try.func28 rfl (by decide) args w
theorem ent_29 (args : Array Value) (w : World) : (callFunc 29 args).run Try.prog w = .ok (.enter 29 args) w := callFunc_enter Try.func29 rfl (by decide) args w
theorem ent_30 (args : Array Value) (w : World) : (callFunc 30 args).run Try.prog w = .ok (.enter 30 args) w := callFunc_enter Try.func30 rfl (by decide) args w
theorem ent_31 (args : Array Value) (w : World) : (callFunc 31 args).run Try.prog w = .ok (.enter 31 args) w := callFunc_enter Try.func31 rfl (by decide) args w
theorem ent_32 (args : Array Value) (w : World) : (callFunc 32 args).run Try.prog w = .ok (.enter 32 args) w := callFunc_enter Try.func32 rfl (by decide) args w
theorem ent_33 (args : Array Value) (w : World) : (callFunc 33 args).run Try.prog w = .ok (.enter 33 args) w := callFunc_enter Try.func33 rfl (by decide) args w
theorem ent_34 (args : Array Value) (w : World) : (callFunc 34 args).run Try.prog w = .ok (.enter 34 args) w := callFunc_enter Try.func34 rfl (by decide) args w
theorem ent_35 (args : Array Value) (w : World) : (callFunc 35 args).run Try.prog w = .ok (.enter 35 args) w := callFunc_enter Try.func35 rfl (by decide) args w
theorem ent_36 (args : Array Value) (w : World) : (callFunc 36 args).run Try.prog w = .ok (.enter 36 args) w := callFunc_enter Try.func36 rfl (by decide) args w
theorem ent_37 (args : Array Value) (w : World) : (callFunc 37 args).run Try.prog w = .ok (.enter 37 args) w := callFunc_enter Try.func37 rfl (by decide) args w
theorem ent_38 (args : Array Value) (w : World) : (callFunc 38 args).run Try.prog w = .ok (.enter 38 args) w := callFunc_enter Try.func38 rfl (by decide) args w
theorem ent_39 (args : Array Value) (w : World) : (callFunc 39 args).run Try.prog w = .ok (.enter 39 args) w := callFunc_enter Try.func39 rfl (by decide) args w
theorem ent_40 (args : Array Value) (w : World) : (callFunc 40 args).run Try.prog w = .ok (.enter 40 args) w := callFunc_enter Try.func40 rfl (by decide) args w
theorem ent_41 (args : Array Value) (w : World) : (callFunc 41 args).run Try.prog w = .ok (.enter 41 args) w := callFunc_enter Try.func41 rfl (by decide) args w
theorem ent_42 (args : Array Value) (w : World) : (callFunc 42 args).run Try.prog w = .ok (.enter 42 args) w := callFunc_enter Try.func42 rfl (by decide) args w
theorem ent_43 (args : Array Value) (w : World) : (callFunc 43 args).run Try.prog w = .ok (.enter 43 args) w := callFunc_enter Try.func43 rfl (by decide) args w
theorem ent_44 (args : Array Value) (w : World) : (callFunc 44 args).run Try.prog w = .ok (.enter 44 args) w := callFunc_enter Try.func44 rfl (by decide) args w
theorem ent_45 (args : Array Value) (w : World) : (callFunc 45 args).run Try.prog w = .ok (.enter 45 args) w := callFunc_enter Try.func45 rfl (by decide) args w
theorem ent_46 (args : Array Value) (w : World) : (callFunc 46 args).run Try.prog w = .ok (.enter 46 args) w := callFunc_enter Try.func46 rfl (by decide) args w
theorem ent_47 (args : Array Value) (w : World) : (callFunc 47 args).run Try.prog w = .ok (.enter 47 args) w := callFunc_enter Try.func47 rfl (by decide) args w
theorem ent_48 (args : Array Value) (w : World) : (callFunc 48 args).run Try.prog w = .ok (.enter 48 args) w := callFunc_enter Try.func48 rfl (by decide) args w
theorem ent_49 (args : Array Value) (w : World) : (callFunc 49 args).run Try.prog w = .ok (.enter 49 args) w := callFunc_enter Try.func49 rfl (by decide) args w
theorem ent_50 (args : Array Value) (w : World) : (callFunc 50 args).run Try.prog w = .ok (.enter 50 args) w := callFunc_enter Try.func50 rfl (by decide) args w
theorem ent_51 (args : Array Value) (w : World) : (callFunc 51 args).run Try.prog w = .ok (.enter 51 args) w := callFunc_enter Try.func51 rfl (by decide) args w
theorem ent_52 (args : Array Value) (w : World) : (callFunc 52 args).run Try.prog w = .ok (.enter 52 args) w := callFunc_enter Try.func52 rfl (by decide) args w
theorem ent_53 (args : Array Value) (w : World) : (callFunc 53 args).run Try.prog w = .ok (.enter 53 args) w := callFunc_enter Try.func53 rfl (by decide) args w
theorem ent_54 (args : Array Value) (w : World) : (callFunc 54 args).run Try.prog w = .ok (.enter 54 args) w := callFunc_enter Try.func54 rfl (by decide) args w
theorem ent_55 (args : Array Value) (w : World) : (callFunc 55 args).run Try.prog w = .ok (.enter 55 args) w := callFunc_enter Try.func55 rfl (by decide) args w
theorem ent_56 (args : Array Value) (w : World) : (callFunc 56 args).run Try.prog w = .ok (.enter 56 args) w := callFunc_enter Try.func56 rfl (by decide) args w
theorem ent_57 (args : Array Value) (w : World) : (callFunc 57 args).run Try.prog w = .ok (.enter 57 args) w := callFunc_enter Try.func57 rfl (by decide) args w
theorem ent_58 (args : Array Value) (w : World) : (callFunc 58 args).run Try.prog w = .ok (.enter 58 args) w := callFunc_enter Try.func58 rfl (by decide) args w
theorem ent_59 (args : Array Value) (w : World) : (callFunc 59 args).run Try.prog w = .ok (.enter 59 args) w := callFunc_enter Try.func59 rfl (by decide) args w
theorem ent_60 (args : Array Value) (w : World) : (callFunc 60 args).run Try.prog w = .ok (.enter 60 args) w := callFunc_enter Try.func60 rfl (by decide) args w
theorem ent_61 (args : Array Value) (w : World) : (callFunc 61 args).run Try.prog w = .ok (.enter 61 args) w := callFunc_enter Try.func61 rfl (by decide) args w
theorem ent_62 (args : Array Value) (w : World) : (callFunc 62 args).run Try.prog w = .ok (.enter 62 args) w := callFunc_enter Try.func62 rfl (by decide) args w
theorem ent_63 (args : Array Value) (w : World) : (callFunc 63 args).run Try.prog w = .ok (.enter 63 args) w := callFunc_enter Try.func63 rfl (by decide) args w
theorem ent_64 (args : Array Value) (w : World) : (callFunc 64 args).run Try.prog w = .ok (.enter 64 args) w := callFunc_enter Try.func64 rfl (by decide) args w
theorem ent_65 (args : Array Value) (w : World) : (callFunc 65 args).run Try.prog w = .ok (.enter 65 args) w := callFunc_enter Try.func65 rfl (by decide) args w
theorem ent_66 (args : Array Value) (w : World) : (callFunc 66 args).run Try.prog w = .ok (.enter 66 args) w := callFunc_enter Try.func66 rfl (by decide) args w
theorem ent_67 (args : Array Value) (w : World) : (callFunc 67 args).run Try.prog w = .ok (.enter 67 args) w := callFunc_enter Try.func67 rfl (by decide) args w
theorem ent_68 (args : Array Value) (w : World) : (callFunc 68 args).run Try.prog w = .ok (.enter 68 args) w := callFunc_enter Try.func68 rfl (by decide) args w
theorem ent_69 (args : Array Value) (w : World) : (callFunc 69 args).run Try.prog w = .ok (.enter 69 args) w := callFunc_enter Try.func69 rfl (by decide) args w
theorem ent_70 (args : Array Value) (w : World) : (callFunc 70 args).run Try.prog w = .ok (.enter 70 args) w := callFunc_enter Try.func70 rfl (by decide) args w
theorem ent_71 (args : Array Value) (w : World) : (callFunc 71 args).run Try.prog w = .ok (.enter 71 args) w := callFunc_enter Try.func71 rfl (by decide) args w
theorem ent_72 (args : Array Value) (w : World) : (callFunc 72 args).run Try.prog w = .ok (.enter 72 args) w := callFunc_enter Try.func72 rfl (by decide) args w
theorem ent_73 (args : Array Value) (w : World) : (callFunc 73 args).run Try.prog w = .ok (.enter 73 args) w := callFunc_enter Try.func73 rfl (by decide) args w
theorem ent_74 (args : Array Value) (w : World) : (callFunc 74 args).run Try.prog w = .ok (.enter 74 args) w := callFunc_enter Try.func74 rfl (by decide) args w
theorem ent_75 (args : Array Value) (w : World) : (callFunc 75 args).run Try.prog w = .ok (.enter 75 args) w := callFunc_enter Try.func75 rfl (by decide) args w
theorem ent_76 (args : Array Value) (w : World) : (callFunc 76 args).run Try.prog w = .ok (.enter 76 args) w := callFunc_enter Try.func76 rfl (by decide) args w
theorem ent_77 (args : Array Value) (w : World) : (callFunc 77 args).run Try.prog w = .ok (.enter 77 args) w := callFunc_enter Try.func77 rfl (by decide) args w
theorem ent_78 (args : Array Value) (w : World) : (callFunc 78 args).run Try.prog w = .ok (.enter 78 args) w := callFunc_enter Try.func78 rfl (by decide) args w
theorem ent_79 (args : Array Value) (w : World) : (callFunc 79 args).run Try.prog w = .ok (.enter 79 args) w := callFunc_enter Try.func79 rfl (by decide) args w
theorem ent_80 (args : Array Value) (w : World) : (callFunc 80 args).run Try.prog w = .ok (.enter 80 args) w := callFunc_enter Try.func80 rfl (by decide) args w
theorem ent_81 (args : Array Value) (w : World) : (callFunc 81 args).run Try.prog w = .ok (.enter 81 args) w := callFunc_enter Try.func81 rfl (by decide) args w
theorem ent_82 (args : Array Value) (w : World) : (callFunc 82 args).run Try.prog w = .ok (.enter 82 args) w := callFunc_enter Try.func82 rfl (by decide) args w
theorem ent_83 (args : Array Value) (w : World) : (callFunc 83 args).run Try.prog w = .ok (.enter 83 args) w := callFunc_enter Try.func83 rfl (by decide) args w
theorem ent_84 (args : Array Value) (w : World) : (callFunc 84 args).run Try.prog w = .ok (.enter 84 args) w := callFunc_enter Try.func84 rfl (by decide) args w
theorem ent_85 (args : Array Value) (w : World) : (callFunc 85 args).run Try.prog w = .ok (.enter 85 args) w := callFunc_enter Try.func85 rfl (by decide) args w
theorem ent_86 (args : Array Value) (w : World) : (callFunc 86 args).run Try.prog w = .ok (.enter 86 args) w := callFunc_enter Try.func86 rfl (by decide) args w
theorem ent_87 (args : Array Value) (w : World) : (callFunc 87 args).run Try.prog w = .ok (.enter 87 args) w := callFunc_enter Try.func87 rfl (by decide) args w
theorem ent_88 (args : Array Value) (w : World) : (callFunc 88 args).run Try.prog w = .ok (.enter 88 args) w := callFunc_enter Try.func88 rfl (by decide) args w
theorem ent_89 (args : Array Value) (w : World) : (callFunc 89 args).run Try.prog w = .ok (.enter 89 args) w := callFunc_enter Try.func89 rfl (by decide) args w
theorem ent_90 (args : Array Value) (w : World) : (callFunc 90 args).run Try.prog w = .ok (.enter 90 args) w := callFunc_enter Try.func90 rfl (by decide) args w
theorem ent_91 (args : Array Value) (w : World) : (callFunc 91 args).run Try.prog w = .ok (.enter 91 args) w := callFunc_enter Try.func91 rfl (by decide) args w
theorem ent_92 (args : Array Value) (w : World) : (callFunc 92 args).run Try.prog w = .ok (.enter 92 args) w := callFunc_enter Try.func92 rfl (by decide) args w
theorem ent_93 (args : Array Value) (w : World) : (callFunc 93 args).run Try.prog w = .ok (.enter 93 args) w := callFunc_enter Try.func93 rfl (by decide) args w
theorem ent_94 (args : Array Value) (w : World) : (callFunc 94 args).run Try.prog w = .ok (.enter 94 args) w := callFunc_enter Try.func94 rfl (by decide) args w
theorem ent_95 (args : Array Value) (w : World) : (callFunc 95 args).run Try.prog w = .ok (.enter 95 args) w := callFunc_enter Try.func95 rfl (by decide) args w
theorem ent_96 (args : Array Value) (w : World) : (callFunc 96 args).run Try.prog w = .ok (.enter 96 args) w := callFunc_enter Try.func96 rfl (by decide) args w
theorem ent_97 (args : Array Value) (w : World) : (callFunc 97 args).run Try.prog w = .ok (.enter 97 args) w := callFunc_enter Try.func97 rfl (by decide) args w
theorem ent_98 (args : Array Value) (w : World) : (callFunc 98 args).run Try.prog w = .ok (.enter 98 args) w := callFunc_enter Try.func98 rfl (by decide) args w
theorem ent_99 (args : Array Value) (w : World) : (callFunc 99 args).run Try.prog w = .ok (.enter 99 args) w := callFunc_enter Try.func99 rfl (by decide) args w
theorem ent_100 (args : Array Value) (w : World) : (callFunc 100 args).run Try.prog w = .ok (.enter 100 args) w := callFunc_enter Try.func100 rfl (by decide) args w
theorem ent_101 (args : Array Value) (w : World) : (callFunc 101 args).run Try.prog w = .ok (.enter 101 args) w := callFunc_enter Try.func101 rfl (by decide) args w
theorem ent_102 (args : Array Value) (w : World) : (callFunc 102 args).run Try.prog w = .ok (.enter 102 args) w := callFunc_enter Try.func102 rfl (by decide) args w
theorem ent_103 (args : Array Value) (w : World) : (callFunc 103 args).run Try.prog w = .ok (.enter 103 args) w := callFunc_enter Try.func103 rfl (by decide) args w
theorem ent_104 (args : Array Value) (w : World) : (callFunc 104 args).run Try.prog w = .ok (.enter 104 args) w := callFunc_enter Try.func104 rfl (by decide) args w
theorem ent_105 (args : Array Value) (w : World) : (callFunc 105 args).run Try.prog w = .ok (.enter 105 args) w := callFunc_enter Try.func105 rfl (by decide) args w
theorem ent_106 (args : Array Value) (w : World) : (callFunc 106 args).run Try.prog w = .ok (.enter 106 args) w := callFunc_enter Try.func106 rfl (by decide) args w
theorem ent_107 (args : Array Value) (w : World) : (callFunc 107 args).run Try.prog w = .ok (.enter 107 args) w := callFunc_enter Try.func107 rfl (by decide) args w
theorem ent_108 (args : Array Value) (w : World) : (callFunc 108 args).run Try.prog w = .ok (.enter 108 args) w := callFunc_enter Try.func108 rfl (by decide) args w
theorem ent_109 (args : Array Value) (w : World) : (callFunc 109 args).run Try.prog w = .ok (.enter 109 args) w := callFunc_enter Try.func109 rfl (by decide) args w
theorem ent_110 (args : Array Value) (w : World) : (callFunc 110 args).run Try.prog w = .ok (.enter 110 args) w := callFunc_enter Try.func110 rfl (by decide) args w
theorem ent_111 (args : Array Value) (w : World) : (callFunc 111 args).run Try.prog w = .ok (.enter 111 args) w := callFunc_enter Try.func111 rfl (by decide) args w
theorem ent_112 (args : Array Value) (w : World) : (callFunc 112 args).run Try.prog w = .ok (.enter 112 args) w := callFunc_enter Try.func112 rfl (by decide) args w
theorem ent_113 (args : Array Value) (w : World) : (callFunc 113 args).run Try.prog w = .ok (.enter 113 args) w := callFunc_enter Try.func113 rfl (by decide) args w
theorem ent_114 (args : Array Value) (w : World) : (callFunc 114 args).run Try.prog w = .ok (.enter 114 args) w := callFunc_enter Try.func114 rfl (by decide) args w
theorem ent_115 (args : Array Value) (w : World) : (callFunc 115 args).run Try.prog w = .ok (.enter 115 args) w := callFunc_enter Try.func115 rfl (by decide) args w
theorem ent_116 (args : Array Value) (w : World) : (callFunc 116 args).run Try.prog w = .ok (.enter 116 args) w := callFunc_enter Try.func116 rfl (by decide) args w
theorem ent_117 (args : Array Value) (w : World) : (callFunc 117 args).run Try.prog w = .ok (.enter 117 args) w := callFunc_enter Try.func117 rfl (by decide) args w
theorem ent_118 (args : Array Value) (w : World) : (callFunc 118 args).run Try.prog w = .ok (.enter 118 args) w := callFunc_enter Try.func118 rfl (by decide) args w
theorem ent_119 (args : Array Value) (w : World) : (callFunc 119 args).run Try.prog w = .ok (.enter 119 args) w := callFunc_enter Try.func119 rfl (by decide) args w
theorem ent_120 (args : Array Value) (w : World) : (callFunc 120 args).run Try.prog w = .ok (.enter 120 args) w := callFunc_enter Try.func120 rfl (by decide) args w
theorem ent_121 (args : Array Value) (w : World) : (callFunc 121 args).run Try.prog w = .ok (.enter 121 args) w := callFunc_enter Try.func121 rfl (by decide) args w
theorem ent_122 (args : Array Value) (w : World) : (callFunc 122 args).run Try.prog w = .ok (.enter 122 args) w := callFunc_enter Try.func122 rfl (by decide) args w
theorem ent_123 (args : Array Value) (w : World) : (callFunc 123 args).run Try.prog w = .ok (.enter 123 args) w := callFunc_enter Try.func123 rfl (by decide) args w
theorem ent_124 (args : Array Value) (w : World) : (callFunc 124 args).run Try.prog w = .ok (.enter 124 args) w := callFunc_enter Try.func124 rfl (by decide) args w
theorem ent_125 (args : Array Value) (w : World) : (callFunc 125 args).run Try.prog w = .ok (.enter 125 args) w := callFunc_enter Try.func125 rfl (by decide) args w
theorem ent_126 (args : Array Value) (w : World) : (callFunc 126 args).run Try.prog w = .ok (.enter 126 args) w := callFunc_enter Try.func126 rfl (by decide) args w
theorem ent_127 (args : Array Value) (w : World) : (callFunc 127 args).run Try.prog w = .ok (.enter 127 args) w := callFunc_enter Try.func127 rfl (by decide) args w
theorem ent_128 (args : Array Value) (w : World) : (callFunc 128 args).run Try.prog w = .ok (.enter 128 args) w := callFunc_enter Try.func128 rfl (by decide) args w
end Go.Proofs.Ytcfadhjiijngmaa


/- The functions, turned: printed by program. -/
import Derived.Test.YtopnlohhfllcpaaDoorFO3
import Derived.Test.YtopnlohhfllcpaaDoorProg
import Derived.KernelRfl
import Derived.Shelf.Sort.Plain
import Derived.Shelf.Slices.In.SortNone
import Derived.Shelf.Strconv.Itoa3
import Derived.Lib.AppendIntMem
import Derived.Lib.ItoaNum
set_option linter.unusedVariables false
set_option linter.unusedSimpArgs false
set_option maxRecDepth 10000
set_option maxHeartbeats 4000000
namespace Go.M2
open Go.Proofs
variable {M : MH} {vs : List V} {RV : V → MH → Prop}
theorem mixed : Tryd.prog.follows .mixedOrders = true := by kernel_rfl
def n_spec_l40Open : Nat := 48
def n_spec_l40Rd_pick : Nat := 65
def n_spec_l40Rd_num : Nat := 66
def n_spec_l20Word : Nat := 76
def n_spec_l4List : Nat := 53
def n_spec_l25Draw : Nat := 69
def n_spec_l25Any : Nat := 47
def n_spec_DrawFoldedGraph : Nat := 23
def n_impl_in : Nat := 40
def n_slices_IndexFunc_Sint_int : Nat := 67
def n_slices_ContainsFunc_Sint_int : Nat := 42
def n_impl_bitsValid_1 : Nat := 88
def n_impl_bitsValid : Nat := 72
def n_impl_letterOk : Nat := 54
def n_impl_setOk : Nat := 55
def n_impl_GraphValid : Nat := 26
def n_math_bits_Len32 : Nat := 86
def n_math_bits_Len64 : Nat := 87
def n_math_bits_Len : Nat := 71
def n_cmp_isNaN_int : Nat := 95
def n_cmp_Less_int : Nat := 83
def n_slices_insertionSortOrdered_int : Nat := 77
def n_slices_siftDownOrdered_int : Nat := 90
def n_slices_heapSortOrdered_int : Nat := 78
def n_slices_nextPowerOfTwo : Nat := 91
def n_slices_xorshift_Next : Nat := 92
def n_slices_breakPatternsOrdered_int : Nat := 79
def n_slices_order2Ordered_int : Nat := 100
def n_slices_medianOrdered_int : Nat := 94
def n_slices_medianAdjacentOrdered_int : Nat := 93
def n_slices_choosePivotOrdered_int : Nat := 80
def n_slices_reverseRangeOrdered_int : Nat := 81
def n_slices_partialInsertionSortOrdered_int : Nat := 82
def n_slices_partitionEqualOrdered_int : Nat := 84
def n_slices_partitionOrdered_int : Nat := 85
def n_slices_pdqsortOrdered_int : Nat := 70
def n_slices_Sort_Sint_int : Nat := 49
def n_internal_strconv_FormatInt : Nat := 89
def n_internal_strconv_Itoa : Nat := 75
def n_strconv_Itoa : Nat := 63
def n_impl_numbersText : Nat := 62
def n_slices_Compact_Sint_int : Nat := 50
def n_slices_Equal_Sint_int : Nat := 41
def n_impl_alike : Nat := 33
def n_impl_clone_int : Nat := 32
def n_impl_clone_Sint : Nat := 51
def n_impl_FoldedGraph : Nat := 24
def n_spec_l1In : Nat := 45
def n_spec_l6Are : Nat := 73
def n_spec_l20Letters : Nat := 56
def n_spec_GraphValid : Nat := 27
def n_spec_l2Same : Nat := 59
def n_spec_l25Class : Nat := 74
def n_spec_l25Round : Nat := 60
def n_spec_l25Rounds : Nat := 30
def n_spec_AlikeIn : Nat := 9
def n_spec_l3Copy : Nat := 52
def n_spec_FoldedGraph : Nat := 25
def n_impl_AlikeIn : Nat := 11
def n_laws_wcInts : Nat := 22
def n_slices_Grow_SSint_Sint : Nat := 64
def n_slices_Concat_SSint_Sint : Nat := 37
def n_slices_Clone_SSint_Sint : Nat := 38
def n_impl_SameGraphs : Nat := 18
def n_laws_FnFolded : Nat := 6
@[go_sem] def l48_0 (_ : Unit) : KL := [kB 2 (.mv (.c (.ptr none))) [0]]
@[go_sem] def l48_1 (_ : Unit) : KL := [kA 3 (.mv (.t 0)),
  kA 4 (.len (.t 3)),
  kB 5 (.bin .gtr (.t 4) (.c (.int .i64 2000))) [0, 5]]
@[go_sem] def l48_2 (_ : Unit) : KL := [kA 6 (.mv (.t 0)),
  kA 7 (.slc 1 (.t 6) none (some (.c (.int .i64 2000))) none),
  kB 0 (.mv (.t 7)) [0]]
@[go_sem] def s48_3 (_ : Unit) : IR := (sQ [(kT l48_1), (.cond (.t 5) (kT l48_2) .skip)])
@[go_sem] def l48_4 (_ : Unit) : KL := [kA 8 (.mv (.t 0)),
  kA 9 (.bld [(.sl none 0 0 true 0), (.int .i64 0)] [(0, 1, (.t 8))]),
  kA 10 (.box (.t 9)),
  kB 2 (.mv (.t 10)) [2]]
@[go_sem] def s48_5 (_ : Unit) : IR := (sQ [(kT l48_0), (tH s48_3), (kT l48_4), .ret])
theorem c48 : compFn Tryd.prog [(0, [], [oS [0]]), (1, [], [oN, oN, oS [0, 5]]), (2, [], [oN, oN, oS [0]]), (3, [], [oN, oN, oN, oS [2]])] Tryd.f48 = some ⟨1, 11, [.t 2], (tH s48_5)⟩ := by kernel_rfl
theorem v_spec_l40Open (hl : vs.length = 1) (h : wpV Tryd.prog (tH s48_5) (postV [.t 2] RV) (envV vs) M) : VCall Tryd.prog n_spec_l40Open vs M RV :=
  vcall_of_wp (fun _ _ _ hl h => acall_of_wp mixed Tryd.func48 c48 (by kernel_rfl) hl h) hl h
@[go_sem] def l65_0 (_ : Unit) : KL := [kB 4 (.mv (cI 0)) [0, 1]]
@[go_sem] def l65_1 (_ : Unit) : KL := [kA 7 (.mv (.t 0)),
  kA 8 (.mv (.t 0)),
  kA 9 (.nilck (.t 8)),
  kA 10 (.faddr (.t 9) 1),
  kB 11 (.load (.t 10) 1 false) [0, 1, 7, 11],
  kA 12 (.bin .add (.t 11) (cI 1)),
  kA 13 (.nilck (.t 7)),
  kA 14 (.faddr (.t 13) 1),
  (⟨none, .store (.t 14) 1 (.t 12), none⟩, (some [0, 1]))]
@[go_sem] def l65_2 (_ : Unit) : KL := [kA 15 (.mv (.t 1)),
  kA 16 (.bin .lss (.t 15) (cI 1)),
  kA 17 (.mv (.t 16)),
  (⟨(some 18), .mv (.t 0), (some (17, false))⟩, none),
  (⟨(some 19), .nilck (.t 18), (some (17, false))⟩, (some [0, 1, 17, 19])),
  (⟨(some 20), .faddr (.t 19) 0, (some (17, false))⟩, none),
  (⟨(some 21), .load (.t 20) 1 false, (some (17, false))⟩, none),
  (⟨(some 22), .len (.t 21), (some (17, false))⟩, none),
  (⟨(some 23), .bin .eql (.t 22) (cI 0), (some (17, false))⟩, none),
  kB 24 (.pick (.t 17) (.c (.bool true)) (.t 23)) [0, 1, 24]]
@[go_sem] def l65_3 (_ : Unit) : KL := [kB 4 (.mv (cI 0)) [4]]
@[go_sem] def s65_4 (_ : Unit) : IR := (sQ [(kT l65_3), .ret])
@[go_sem] def s65_5 (_ : Unit) : IR := (sQ [(kT l65_2), (.cond (.t 24) (tH s65_4) .skip)])
@[go_sem] def l65_6 (_ : Unit) : KL := [kA 25 (.mv (.t 0)),
  kA 26 (.nilck (.t 25)),
  kA 27 (.faddr (.t 26) 1),
  kA 28 (.load (.t 27) 1 false),
  kB 29 (.bin .sub (.t 28) (cI 1)) [0, 1, 29],
  kB 5 (.mv (.t 29)) [0, 1, 5]]
@[go_sem] def l65_7 (_ : Unit) : KL := [kA 30 (.mv (.t 5)),
  kA 31 (.mv (.t 0)),
  kA 32 (.nilck (.t 31)),
  kA 33 (.faddr (.t 32) 0),
  kB 34 (.load (.t 33) 1 false) [0, 1, 5, 30, 34],
  kA 35 (.len (.t 34)),
  kB 36 (.bin .lss (.t 30) (.t 35)) [0, 1, 5, 36]]
@[go_sem] def l65_8 (_ : Unit) : KL := [kA 37 (.mv (.t 0)),
  kA 38 (.nilck (.t 37)),
  kA 39 (.faddr (.t 38) 0),
  kA 40 (.load (.t 39) 1 false),
  kB 41 (.mv (.t 5)) [1, 40, 41],
  kA 42 (.iaddr (.t 40) (.t 41) 1),
  kA 43 (.load (.t 42) 1 false),
  kA 44 (.cvi .i64 (.t 43)),
  kA 45 (.mv (.t 1)),
  kB 46 (.bin .rem (.t 44) (.t 45)) [46],
  kB 4 (.mv (.t 46)) [4]]
@[go_sem] def s65_9 (_ : Unit) : IR := (sQ [(kT l65_8), .ret])
@[go_sem] def s65_10 (_ : Unit) : IR := (sQ [(kT l65_7), (.cond (.t 36) (tH s65_9) .skip)])
@[go_sem] def l65_11 : Nat → GOp
  | 0 => ⟨(some 47), .mv (.t 0), none⟩
  | 1 => ⟨(some 48), .nilck (.t 47), none⟩
  | 2 => ⟨(some 49), .faddr (.t 48) 0, none⟩
  | 3 => ⟨(some 50), .load (.t 49) 1 false, none⟩
  | 4 => ⟨(some 51), .mv (.t 5), none⟩
  | 5 => ⟨(some 52), .mv (.t 0), none⟩
  | 6 => ⟨(some 53), .nilck (.t 52), none⟩
  | 7 => ⟨(some 54), .faddr (.t 53) 0, none⟩
  | 8 => ⟨(some 55), .load (.t 54) 1 false, none⟩
  | 9 => ⟨(some 56), .len (.t 55), none⟩
  | 10 => ⟨(some 57), .bin .rem (.t 51) (.t 56), none⟩
  | 11 => ⟨(some 58), .iaddr (.t 50) (.t 57) 1, none⟩
  | 12 => ⟨(some 59), .load (.t 58) 1 false, none⟩
  | 13 => ⟨(some 60), .cvi .i64 (.t 59), none⟩
  | 14 => ⟨(some 61), .bin .mul (.t 60) (.c (.int .i64 131)), none⟩
  | 15 => ⟨(some 62), .mv (.t 0), none⟩
  | 16 => ⟨(some 63), .nilck (.t 62), none⟩
  | 17 => ⟨(some 64), .faddr (.t 63) 0, none⟩
  | 18 => ⟨(some 65), .load (.t 64) 1 false, none⟩
  | 19 => ⟨(some 66), .mv (.t 5), none⟩
  | 20 => ⟨(some 67), .bin .mul (.t 66) (.c (.int .i64 7)), none⟩
  | 21 => ⟨(some 68), .bin .add (.t 67) (.c (.int .i64 3)), none⟩
  | 22 => ⟨(some 69), .mv (.t 0), none⟩
  | 23 => ⟨(some 70), .nilck (.t 69), none⟩
  | 24 => ⟨(some 71), .faddr (.t 70) 0, none⟩
  | 25 => ⟨(some 72), .load (.t 71) 1 false, none⟩
  | 26 => ⟨(some 73), .len (.t 72), none⟩
  | 27 => ⟨(some 74), .bin .rem (.t 68) (.t 73), none⟩
  | 28 => ⟨(some 75), .iaddr (.t 65) (.t 74) 1, none⟩
  | 29 => ⟨(some 76), .load (.t 75) 1 false, none⟩
  | 30 => ⟨(some 77), .cvi .i64 (.t 76), none⟩
  | 31 => ⟨(some 78), .bin .mul (.t 77) (.c (.int .i64 1117)), none⟩
  | 32 => ⟨(some 79), .bin .add (.t 61) (.t 78), none⟩
  | 33 => ⟨(some 80), .mv (.t 5), none⟩
  | 34 => ⟨(some 81), .bin .mul (.t 80) (.c (.int .i64 29)), none⟩
  | 35 => ⟨(some 82), .bin .add (.t 79) (.t 81), none⟩
  | 36 => ⟨(some 83), .mv (.t 5), none⟩
  | 37 => ⟨(some 84), .mv (.t 0), none⟩
  | 38 => ⟨(some 85), .nilck (.t 84), none⟩
  | 39 => ⟨(some 86), .faddr (.t 85) 0, none⟩
  | 40 => ⟨(some 87), .load (.t 86) 1 false, none⟩
  | 41 => ⟨(some 88), .len (.t 87), none⟩
  | 42 => ⟨(some 89), .bin .quo (.t 83) (.t 88), none⟩
  | 43 => ⟨(some 90), .bin .mul (.t 89) (.c (.int .i64 53)), none⟩
  | 44 => ⟨(some 91), .bin .add (.t 82) (.t 90), none⟩
  | 45 => ⟨(some 6), .mv (.t 91), none⟩
  | _ => ⟨none, .mkmap, none⟩
@[go_sem] def l65_12 (_ : Unit) : KL := [kA 92 (.mv (.t 6)),
  kA 93 (.mv (.t 6)),
  kA 94 (.bin .quo (.t 93) (.c (.int .i64 64))),
  kA 95 (.bin .xor (.t 92) (.t 94)),
  kB 6 (.mv (.t 95)) [1, 6]]
@[go_sem] def l65_13 (_ : Unit) : KL := [kA 96 (.mv (.t 6)),
  kA 97 (.mv (.t 1)),
  kA 98 (.bin .rem (.t 96) (.t 97)),
  kB 4 (.mv (.t 98)) [4]]
@[go_sem] def s65_14 (_ : Unit) : IR := (sQ [(kT l65_0), (kT l65_1), (tH s65_5), (kT l65_6), (tH s65_10), (.kd (oF l65_11 46) [(0, []), (1, []), (2, []), (3, []), (4, []), (5, []), (6, []), (7, []), (8, []), (9, []), (10, []), (11, []), (12, []), (13, []), (14, []), (15, []), (16, []), (17, []), (18, []), (19, []), (20, []), (21, []), (22, []), (23, []), (24, []), (25, []), (26, []), (27, []), (28, []), (29, []), (30, []), (31, []), (32, []), (33, []), (34, []), (35, []), (36, []), (37, []), (38, []), (39, []), (40, []), (41, []), (42, []), (43, []), (44, []), (45, [])] [1, 6]), (kT l65_12), (kT l65_13), .ret])
theorem c65 : compFn Tryd.prog [(0, [], [oS [0, 1]]), (1, [], [oN, oN, oN, oN, oS [0, 1, 7, 11], oN, oN, oN, oS [0, 1]]), (2, [], [oN, oN, oN, oN, oS [0, 1, 17, 19], oN, oN, oN, oN, oS [0, 1, 24]]), (3, [], [oS [4]]), (4, [], [oN, oN, oN, oN, oS [0, 1, 29], oS [0, 1, 5]]), (5, [], [oN, oN, oN, oN, oS [0, 1, 5, 30, 34], oN, oS [0, 1, 5, 36]]), (6, [], [oN, oN, oN, oN, oS [1, 40, 41], oN, oN, oN, oN, oS [46], oS [4]]), (7, [(0, []), (1, []), (2, []), (3, []), (4, []), (5, []), (6, []), (7, []), (8, []), (9, []), (10, []), (11, []), (12, []), (13, []), (14, []), (15, []), (16, []), (17, []), (18, []), (19, []), (20, []), (21, []), (22, []), (23, []), (24, []), (25, []), (26, []), (27, []), (28, []), (29, []), (30, []), (31, []), (32, []), (33, []), (34, []), (35, []), (36, []), (37, []), (38, []), (39, []), (40, []), (41, []), (42, []), (43, []), (44, []), (45, [])], [oS [1, 6]]), (8, [], [oN, oN, oN, oN, oS [1, 6]]), (9, [], [oN, oN, oN, oS [4]])] Tryd.f65 = some ⟨2, 99, [.t 4], (tH s65_14)⟩ := by kernel_rfl
theorem v_spec_l40Rd_pick (hl : vs.length = 2) (h : wpV Tryd.prog (tH s65_14) (postV [.t 4] RV) (envV vs) M) : VCall Tryd.prog n_spec_l40Rd_pick vs M RV :=
  vcall_of_wp (fun _ _ _ hl h => acall_of_wp mixed Tryd.func65 c65 (by kernel_rfl) hl h) hl h
@[go_sem] def l66_0 (_ : Unit) : KL := [kB 4 (.mv (cI 0)) [0, 1]]
@[go_sem] def l66_1 (_ : Unit) : KL := [kA 5 (.mv (.t 1)),
  kA 6 (.mv (.t 0)),
  kA 7 (.mv (.t 1)),
  kA 8 (.len (.t 7)),
  kB 9 (.call (n_spec_l40Rd_pick) [(.t 6), (.t 8)]) [5, 9],
  kA 10 (.iaddr (.t 5) (.t 9) 1),
  kA 11 (.load (.t 10) 1 false),
  kB 4 (.mv (.t 11)) [4]]
@[go_sem] def s66_2 (_ : Unit) : IR := (sQ [(kT l66_0), (kT l66_1), .ret])
theorem c66 : compFn Tryd.prog [(0, [], [oS [0, 1]]), (1, [], [oN, oN, oN, oN, oS [5, 9], oN, oN, oS [4]])] Tryd.f66 = some ⟨2, 12, [.t 4], (tH s66_2)⟩ := by kernel_rfl
theorem v_spec_l40Rd_num (hl : vs.length = 2) (h : wpV Tryd.prog (tH s66_2) (postV [.t 4] RV) (envV vs) M) : VCall Tryd.prog n_spec_l40Rd_num vs M RV :=
  vcall_of_wp (fun _ _ _ hl h => acall_of_wp mixed Tryd.func66 c66 (by kernel_rfl) hl h) hl h
@[go_sem] def l76_0 (_ : Unit) : KL := [kB 6 (.mv (.c (.sl none 0 0 true 0))) [0, 1, 2]]
@[go_sem] def l76_1 (_ : Unit) : KL := [kA 11 (.bslc 1 0 [(.sl none 0 0 true 0)] []),
  kB 7 (.mv (.t 11)) [0, 1, 2, 7]]
@[go_sem] def l76_2 (_ : Unit) : KL := [kB 8 (.mv (cI 0)) [0, 1, 2, 7, 8]]
@[go_sem] def l76_3 (_ : Unit) : KL := [kA 12 (.mv (.t 8)),
  kA 13 (.mv (.t 2)),
  kB 14 (.bin .lss (.t 12) (.t 13)) [0, 1, 2, 7, 8, 14]]
@[go_sem] def s76_4 (_ : Unit) : IR := (sQ [(kT l76_3), (.cond (.t 14) .skip (.exit 0))])
@[go_sem] def l76_5 (_ : Unit) : KL := [kA 17 (.bslc 1 0 [(.int .i64 0)] []),
  kB 9 (.mv (.t 17)) [0, 1, 2, 7, 8, 9]]
@[go_sem] def l76_6 (_ : Unit) : KL := [kB 10 (.mv (cI 0)) [0, 1, 2, 7, 8, 9, 10]]
@[go_sem] def l76_7 (_ : Unit) : KL := [kA 18 (.mv (.t 10)),
  kA 19 (.mv (.t 1)),
  kB 20 (.bin .lss (.t 18) (.t 19)) [0, 1, 2, 7, 8, 9, 10, 20]]
@[go_sem] def s76_8 (_ : Unit) : IR := (sQ [(kT l76_7), (.cond (.t 20) .skip (.exit 2))])
@[go_sem] def l76_9 (_ : Unit) : KL := [kA 23 (.mv (.t 9)),
  kA 24 (.mv (.t 0)),
  kA 25 (.call (n_spec_l40Rd_pick) [(.t 24), (.c (.int .i64 2))]),
  kA 26 (.bslc 1 1 [(.int .i64 0)] [(0, (.t 25))]),
  kB 27 (.app 1 8 (.t 23) (.t 26)) [0, 1, 2, 7, 8, 10, 27],
  kB 9 (.mv (.t 27)) [0, 1, 2, 7, 8, 9, 10]]
@[go_sem] def s76_10 (_ : Unit) : IR := (.block 3 (kT l76_9))
@[go_sem] def l76_11 (_ : Unit) : KL := [kA 21 (.mv (.t 10)),
  kA 22 (.bin .add (.t 21) (cI 1)),
  kB 10 (.mv (.t 22)) [0, 1, 2, 7, 8, 9, 10]]
@[go_sem] def s76_12 (_ : Unit) : IR := (sQ [(tH s76_8), (tH s76_10), (kT l76_11)])
@[go_sem] def s76_13 (_ : Unit) : IR := (.loop (tH s76_12))
@[go_sem] def s76_14 (_ : Unit) : IR := (.block 2 (tH s76_13))
@[go_sem] def s76_15 (_ : Unit) : IR := (sQ [(kT l76_6), (tH s76_14)])
@[go_sem] def l76_16 (_ : Unit) : KL := [kA 28 (.mv (.t 7)),
  kA 29 (.mv (.t 9)),
  kA 30 (.bslc 1 1 [(.sl none 0 0 true 0)] [(0, (.t 29))]),
  kA 31 (.app 1 24 (.t 28) (.t 30)),
  kB 7 (.mv (.t 31)) [0, 1, 2, 7, 8]]
@[go_sem] def s76_17 (_ : Unit) : IR := (sQ [(kT l76_5), (tH s76_15), (kT l76_16)])
@[go_sem] def s76_18 (_ : Unit) : IR := (.block 1 (tH s76_17))
@[go_sem] def l76_19 (_ : Unit) : KL := [kA 15 (.mv (.t 8)),
  kA 16 (.bin .add (.t 15) (cI 1)),
  kB 8 (.mv (.t 16)) [0, 1, 2, 7, 8]]
@[go_sem] def s76_20 (_ : Unit) : IR := (sQ [(tH s76_4), (tH s76_18), (kT l76_19)])
@[go_sem] def s76_21 (_ : Unit) : IR := (.loop (tH s76_20))
@[go_sem] def s76_22 (_ : Unit) : IR := (.block 0 (tH s76_21))
@[go_sem] def s76_23 (_ : Unit) : IR := (sQ [(kT l76_2), (tH s76_22)])
@[go_sem] def l76_24 (_ : Unit) : KL := [kA 32 (.mv (.t 7)),
  kB 6 (.mv (.t 32)) [6]]
@[go_sem] def s76_25 (_ : Unit) : IR := (sQ [(kT l76_0), (kT l76_1), (tH s76_23), (kT l76_24), .ret])
theorem c76 : compFn Tryd.prog [(0, [], [oS [0, 1, 2]]), (1, [], [oN, oS [0, 1, 2, 7]]), (2, [], [oS [0, 1, 2, 7, 8]]), (3, [], [oN, oN, oS [0, 1, 2, 7, 8, 14]]), (5, [], [oN, oS [0, 1, 2, 7, 8, 9]]), (6, [], [oS [0, 1, 2, 7, 8, 9, 10]]), (7, [], [oN, oN, oS [0, 1, 2, 7, 8, 9, 10, 20]]), (9, [], [oN, oN, oN, oN, oS [0, 1, 2, 7, 8, 10, 27], oS [0, 1, 2, 7, 8, 9, 10]]), (8, [], [oN, oN, oS [0, 1, 2, 7, 8, 9, 10]]), (10, [], [oN, oN, oN, oN, oS [0, 1, 2, 7, 8]]), (4, [], [oN, oN, oS [0, 1, 2, 7, 8]]), (11, [], [oN, oS [6]])] Tryd.f76 = some ⟨3, 33, [.t 6], (tH s76_25)⟩ := by kernel_rfl
theorem v_spec_l20Word (hl : vs.length = 3) (h : wpV Tryd.prog (tH s76_25) (postV [.t 6] RV) (envV vs) M) : VCall Tryd.prog n_spec_l20Word vs M RV :=
  vcall_of_wp (fun _ _ _ hl h => acall_of_wp mixed Tryd.func76 c76 (by kernel_rfl) hl h) hl h
@[go_sem] def l53_0 (_ : Unit) : KL := [kB 2 (.mv (.c (.sl none 0 0 true 0))) [0]]
@[go_sem] def l53_1 (_ : Unit) : KL := [kA 5 (.bslc 1 0 [(.int .i64 0)] []),
  kB 3 (.mv (.t 5)) [0, 3]]
@[go_sem] def l53_2 (_ : Unit) : KL := [kB 4 (.mv (cI 0)) [0, 3, 4]]
@[go_sem] def l53_3 (_ : Unit) : KL := [kA 6 (.mv (.t 4)),
  kA 7 (.mv (.t 0)),
  kA 8 (.len (.t 7)),
  kB 9 (.bin .lss (.t 6) (.t 8)) [0, 3, 4, 9]]
@[go_sem] def s53_4 (_ : Unit) : IR := (sQ [(kT l53_3), (.cond (.t 9) .skip (.exit 0))])
@[go_sem] def l53_5 (_ : Unit) : KL := [kA 12 (.mv (.t 0)),
  kA 13 (.mv (.t 4)),
  kA 14 (.iaddr (.t 12) (.t 13) 1),
  kB 15 (.load (.t 14) 1 false) [0, 3, 4, 15]]
@[go_sem] def l53_6 (_ : Unit) : KL := [kA 16 (.mv (.t 3)),
  kA 17 (.mv (.t 4)),
  kA 18 (.bslc 1 1 [(.int .i64 0)] [(0, (.t 17))]),
  kA 19 (.app 1 8 (.t 16) (.t 18)),
  kB 3 (.mv (.t 19)) [0, 3, 4]]
@[go_sem] def s53_7 (_ : Unit) : IR := (sQ [(kT l53_5), (.cond (.t 15) (kT l53_6) .skip)])
@[go_sem] def s53_8 (_ : Unit) : IR := (.block 1 (tH s53_7))
@[go_sem] def l53_9 (_ : Unit) : KL := [kA 10 (.mv (.t 4)),
  kA 11 (.bin .add (.t 10) (cI 1)),
  kB 4 (.mv (.t 11)) [0, 3, 4]]
@[go_sem] def s53_10 (_ : Unit) : IR := (sQ [(tH s53_4), (tH s53_8), (kT l53_9)])
@[go_sem] def s53_11 (_ : Unit) : IR := (.loop (tH s53_10))
@[go_sem] def s53_12 (_ : Unit) : IR := (.block 0 (tH s53_11))
@[go_sem] def s53_13 (_ : Unit) : IR := (sQ [(kT l53_2), (tH s53_12)])
@[go_sem] def l53_14 (_ : Unit) : KL := [kA 20 (.mv (.t 3)),
  kB 2 (.mv (.t 20)) [2]]
@[go_sem] def s53_15 (_ : Unit) : IR := (sQ [(kT l53_0), (kT l53_1), (tH s53_13), (kT l53_14), .ret])
theorem c53 : compFn Tryd.prog [(0, [], [oS [0]]), (1, [], [oN, oS [0, 3]]), (2, [], [oS [0, 3, 4]]), (3, [], [oN, oN, oN, oS [0, 3, 4, 9]]), (5, [], [oN, oN, oN, oS [0, 3, 4, 15]]), (6, [], [oN, oN, oN, oN, oS [0, 3, 4]]), (4, [], [oN, oN, oS [0, 3, 4]]), (7, [], [oN, oS [2]])] Tryd.f53 = some ⟨1, 21, [.t 2], (tH s53_15)⟩ := by kernel_rfl
theorem v_spec_l4List (hl : vs.length = 1) (h : wpV Tryd.prog (tH s53_15) (postV [.t 2] RV) (envV vs) M) : VCall Tryd.prog n_spec_l4List vs M RV :=
  vcall_of_wp (fun _ _ _ hl h => acall_of_wp mixed Tryd.func53 c53 (by kernel_rfl) hl h) hl h
@[go_sem] def l69_0 (_ : Unit) : KL := [kB 6 (.alloc [(.sl none 0 0 true 0), (.int .i64 0), (.sl none 0 0 true 0)]) [0, 1, 2, 6]]
@[go_sem] def l69_1 (_ : Unit) : KL := [kA 12 (.mv (.t 0)),
  kA 13 (.mv (.t 2)),
  kA 14 (.call (n_spec_l40Rd_pick) [(.t 12), (.t 13)]),
  kA 15 (.bin .add (cI 1) (.t 14)),
  kB 7 (.mv (.t 15)) [0, 1, 6, 7]]
@[go_sem] def l69_2 (_ : Unit) : KL := [kA 16 (.mv (.t 0)),
  kA 17 (.mv (.t 7)),
  kA 18 (.call (n_spec_l40Rd_pick) [(.t 16), (.t 17)]),
  kA 19 (.mv (.t 0)),
  kB 20 (.mv (.t 1)) [0, 6, 7, 18, 19, 20],
  kA 21 (.mv (.t 7)),
  kA 22 (.call (n_spec_l20Word) [(.t 19), (.t 20), (.t 21)]),
  kA 23 (.bld [(.sl none 0 0 true 0), (.int .i64 0), (.sl none 0 0 true 0)] [(1, 1, (.t 18)), (0, 1, (.t 22))]),
  kA 8 (.alloc [(.sl none 0 0 true 0), (.int .i64 0), (.sl none 0 0 true 0)]),
  (⟨none, .store (.t 8) 3 (.t 23), none⟩, (some [0, 6, 7, 8]))]
@[go_sem] def l69_3 (_ : Unit) : KL := [kB 9 (.mv (cI 0)) [0, 6, 7, 8, 9]]
@[go_sem] def l69_4 (_ : Unit) : KL := [kA 24 (.mv (.t 9)),
  kA 25 (.mv (.t 7)),
  kB 26 (.bin .lss (.t 24) (.t 25)) [0, 6, 7, 8, 9, 26]]
@[go_sem] def s69_5 (_ : Unit) : IR := (sQ [(kT l69_4), (.cond (.t 26) .skip (.exit 0))])
@[go_sem] def l69_6 (_ : Unit) : KL := [kA 29 (.mv (.t 7)),
  kA 30 (.mks [(.bool false)] 1 (.t 29)),
  kB 10 (.mv (.t 30)) [0, 6, 7, 8, 9, 10]]
@[go_sem] def l69_7 (_ : Unit) : KL := [kA 31 (.mv (.t 0)),
  kA 32 (.call (n_spec_l40Rd_pick) [(.t 31), (.c (.int .i64 2))]),
  kA 33 (.bin .add (cI 1) (.t 32)),
  kB 11 (.mv (.t 33)) [0, 6, 7, 8, 9, 10, 11]]
@[go_sem] def l69_8 (_ : Unit) : KL := [kA 34 (.mv (.t 11)),
  kB 35 (.bin .gtr (.t 34) (cI 0)) [0, 6, 7, 8, 9, 10, 11, 35]]
@[go_sem] def s69_9 (_ : Unit) : IR := (sQ [(kT l69_8), (.cond (.t 35) .skip (.exit 2))])
@[go_sem] def l69_10 (_ : Unit) : KL := [kA 38 (.mv (.t 10)),
  kA 39 (.mv (.t 0)),
  kA 40 (.mv (.t 7)),
  kA 41 (.call (n_spec_l40Rd_pick) [(.t 39), (.t 40)]),
  kB 42 (.iaddr (.t 38) (.t 41) 1) [0, 6, 7, 8, 9, 10, 11, 42],
  (⟨none, .store (.t 42) 1 (.c (.bool true)), none⟩, (some [0, 6, 7, 8, 9, 10, 11]))]
@[go_sem] def s69_11 (_ : Unit) : IR := (.block 3 (kT l69_10))
@[go_sem] def l69_12 (_ : Unit) : KL := [kA 36 (.mv (.t 11)),
  kA 37 (.bin .sub (.t 36) (cI 1)),
  kB 11 (.mv (.t 37)) [0, 6, 7, 8, 9, 10, 11]]
@[go_sem] def s69_13 (_ : Unit) : IR := (sQ [(tH s69_9), (tH s69_11), (kT l69_12)])
@[go_sem] def s69_14 (_ : Unit) : IR := (.loop (tH s69_13))
@[go_sem] def s69_15 (_ : Unit) : IR := (.block 2 (tH s69_14))
@[go_sem] def s69_16 (_ : Unit) : IR := (sQ [(kT l69_7), (tH s69_15)])
@[go_sem] def l69_17 : Nat → GOp
  | 0 => ⟨(some 43), .faddr (.t 8) 2, none⟩
  | 1 => ⟨(some 44), .load (.t 43) 1 false, none⟩
  | 2 => ⟨(some 45), .mv (.t 10), none⟩
  | 3 => ⟨(some 46), .call (n_spec_l4List) [(.t 45)], none⟩
  | 4 => ⟨(some 47), .bslc 1 1 [(.sl none 0 0 true 0)] [(0, (.t 46))], none⟩
  | 5 => ⟨(some 48), .app 1 24 (.t 44) (.t 47), none⟩
  | 6 => ⟨(some 49), .faddr (.t 8) 2, none⟩
  | 7 => ⟨none, .store (.t 49) 1 (.t 48), none⟩
  | _ => ⟨none, .mkmap, none⟩
@[go_sem] def s69_18 (_ : Unit) : IR := (sQ [(kT l69_6), (tH s69_16), (.kd (oF l69_17 8) [(0, []), (1, []), (2, []), (3, [1]), (4, []), (5, []), (6, []), (7, [])] [0, 6, 7, 8, 9])])
@[go_sem] def s69_19 (_ : Unit) : IR := (.block 1 (tH s69_18))
@[go_sem] def l69_20 (_ : Unit) : KL := [kA 27 (.mv (.t 9)),
  kA 28 (.bin .add (.t 27) (cI 1)),
  kB 9 (.mv (.t 28)) [0, 6, 7, 8, 9]]
@[go_sem] def s69_21 (_ : Unit) : IR := (sQ [(tH s69_5), (tH s69_19), (kT l69_20)])
@[go_sem] def s69_22 (_ : Unit) : IR := (.loop (tH s69_21))
@[go_sem] def s69_23 (_ : Unit) : IR := (.block 0 (tH s69_22))
@[go_sem] def s69_24 (_ : Unit) : IR := (sQ [(kT l69_3), (tH s69_23)])
@[go_sem] def l69_25 (_ : Unit) : KL := [kA 50 (.load (.t 8) 3 true),
  (⟨none, .store (.t 6) 3 (.t 50), none⟩, (some [6]))]
@[go_sem] def s69_26 (_ : Unit) : IR := (sQ [(kT l69_0), (kT l69_1), (kT l69_2), (tH s69_24), (kT l69_25), .ret])
theorem c69 : compFn Tryd.prog [(0, [], [oS [0, 1, 2, 6]]), (1, [], [oN, oN, oN, oN, oS [0, 1, 6, 7]]), (2, [], [oN, oN, oN, oN, oS [0, 6, 7, 18, 19, 20], oN, oN, oN, oN, oS [0, 6, 7, 8]]), (3, [], [oS [0, 6, 7, 8, 9]]), (4, [], [oN, oN, oS [0, 6, 7, 8, 9, 26]]), (6, [], [oN, oN, oS [0, 6, 7, 8, 9, 10]]), (7, [], [oN, oN, oN, oS [0, 6, 7, 8, 9, 10, 11]]), (8, [], [oN, oS [0, 6, 7, 8, 9, 10, 11, 35]]), (10, [], [oN, oN, oN, oN, oS [0, 6, 7, 8, 9, 10, 11, 42], oS [0, 6, 7, 8, 9, 10, 11]]), (9, [], [oN, oN, oS [0, 6, 7, 8, 9, 10, 11]]), (11, [(0, []), (1, []), (2, []), (3, [1]), (4, []), (5, []), (6, []), (7, [])], [oS [0, 6, 7, 8, 9]]), (5, [], [oN, oN, oS [0, 6, 7, 8, 9]]), (12, [], [oN, oS [6]])] Tryd.f69 = some ⟨3, 51, [.c 6 3 true], (tH s69_26)⟩ := by kernel_rfl
theorem v_spec_l25Draw (hl : vs.length = 3) (h : wpV Tryd.prog (tH s69_26) (postV [.c 6 3 true] RV) (envV vs) M) : VCall Tryd.prog n_spec_l25Draw vs M RV :=
  vcall_of_wp (fun _ _ _ hl h => acall_of_wp mixed Tryd.func69 c69 (by kernel_rfl) hl h) hl h
@[go_sem] def l47_0 (_ : Unit) : KL := [kA 4 (.alloc [(.sl none 0 0 true 0), (.int .i64 0), (.sl none 0 0 true 0)]),
  kB 5 (.mv (cI 0)) [0, 1, 4]]
@[go_sem] def l47_1 (_ : Unit) : KL := [kA 9 (.mv (.t 0)),
  kA 10 (.bslc 1 4 [(.int .i64 0)] [(0, (cI 1)), (1, (cI 1)), (2, (.c (.int .i64 2))), (3, (cI 0))]),
  kA 11 (.call (n_spec_l40Rd_num) [(.t 9), (.t 10)]),
  kB 6 (.mv (.t 11)) [0, 1, 4, 6]]
@[go_sem] def l47_2 (_ : Unit) : KL := [kA 12 (.mv (.t 0)),
  kA 13 (.mv (.t 6)),
  kA 14 (.mv (.t 1)),
  kA 15 (.call (n_spec_l25Draw) [(.t 12), (.t 13), (.t 14)]),
  kB 7 (.alloc [(.sl none 0 0 true 0), (.int .i64 0), (.sl none 0 0 true 0)]) [0, 4, 6, 7, 15],
  (⟨none, .store (.t 7) 3 (.t 15), none⟩, (some [0, 4, 6, 7]))]
@[go_sem] def l47_3 (_ : Unit) : KL := [kA 16 (.mv (.t 0)),
  kA 17 (.call (n_spec_l40Rd_pick) [(.t 16), (.c (.int .i64 14))]),
  kB 18 (.bin .eql (.t 17) (cI 0)) [0, 4, 6, 7, 18]]
@[go_sem] def l47_4 (_ : Unit) : KL := [kA 19 (.mv (.t 0)),
  kA 20 (.call (n_spec_l40Rd_pick) [(.t 19), (.c (.int .i64 4))]),
  kB 8 (.mv (.t 20)) [0, 4, 6, 7, 8]]
@[go_sem] def l47_5 (_ : Unit) : KL := [kA 21 (.mv (.t 8)),
  kB 22 (.bin .eql (.t 21) (cI 0)) [0, 4, 6, 7, 8, 22]]
@[go_sem] def l47_6 (_ : Unit) : KL := [kA 23 (.mv (.t 0)),
  kA 24 (.faddr (.t 7) 2),
  kA 25 (.load (.t 24) 1 false),
  kA 26 (.len (.t 25)),
  kB 27 (.bslc 1 2 [(.int .i64 0)] [(0, (.t 26)), (1, (.c (.int .i64 (-1))))]) [4, 6, 7, 23, 27],
  kA 28 (.call (n_spec_l40Rd_num) [(.t 23), (.t 27)]),
  kA 29 (.faddr (.t 7) 1),
  (⟨none, .store (.t 29) 1 (.t 28), none⟩, (some [4, 6, 7]))]
@[go_sem] def l47_7 (_ : Unit) : KL := [kA 30 (.mv (.t 8)),
  kB 31 (.bin .eql (.t 30) (cI 1)) [4, 6, 7, 8, 31]]
@[go_sem] def l47_8 (_ : Unit) : KL := [kA 32 (.faddr (.t 7) 2),
  kA 33 (.load (.t 32) 1 false),
  kA 34 (.faddr (.t 7) 2),
  kA 35 (.load (.t 34) 1 false),
  kB 36 (.len (.t 35)) [4, 6, 7, 33, 36],
  kA 37 (.bslc 1 1 [(.int .i64 0)] [(0, (.t 36))]),
  kA 38 (.iaddr (.t 33) (cI 0) 1),
  (⟨none, .store (.t 38) 1 (.t 37), none⟩, (some [4, 6, 7]))]
@[go_sem] def l47_9 (_ : Unit) : KL := [kA 39 (.mv (.t 8)),
  kB 40 (.bin .eql (.t 39) (.c (.int .i64 2))) [4, 6, 7, 40]]
@[go_sem] def l47_10 (_ : Unit) : KL := [kA 41 (.faddr (.t 7) 2),
  kA 42 (.load (.t 41) 1 false),
  kA 43 (.iaddr (.t 42) (cI 0) 1),
  (⟨none, .store (.t 43) 1 (.c (.sl none 0 0 true 0)), none⟩, (some [4, 6, 7]))]
@[go_sem] def l47_11 (_ : Unit) : KL := [kA 44 (.faddr (.t 7) 0),
  kA 45 (.load (.t 44) 1 false),
  kA 46 (.slcd 1 (.t 45)),
  kA 47 (.faddr (.t 7) 0),
  (⟨none, .store (.t 47) 1 (.t 46), none⟩, (some [4, 6, 7]))]
@[go_sem] def s47_12 (_ : Unit) : IR := (sQ [(kT l47_9), (.cond (.t 40) (kT l47_10) (kT l47_11))])
@[go_sem] def s47_13 (_ : Unit) : IR := (sQ [(kT l47_7), (.cond (.t 31) (kT l47_8) (tH s47_12))])
@[go_sem] def s47_14 (_ : Unit) : IR := (sQ [(kT l47_4), (kT l47_5), (.cond (.t 22) (kT l47_6) (tH s47_13))])
@[go_sem] def s47_15 (_ : Unit) : IR := (sQ [(kT l47_3), (.cond (.t 18) (tH s47_14) .skip)])
@[go_sem] def l47_16 (_ : Unit) : KL := [kA 48 (.load (.t 7) 3 true),
  kA 49 (.mv (.t 6)),
  (⟨none, .store (.t 4) 3 (.t 48), none⟩, none),
  kB 5 (.mv (.t 49)) [4, 5]]
@[go_sem] def s47_17 (_ : Unit) : IR := (sQ [(kT l47_0), (kT l47_1), (kT l47_2), (tH s47_15), (kT l47_16), .ret])
theorem c47 : compFn Tryd.prog [(0, [], [oN, oS [0, 1, 4]]), (1, [], [oN, oN, oN, oS [0, 1, 4, 6]]), (2, [], [oN, oN, oN, oN, oS [0, 4, 6, 7, 15], oS [0, 4, 6, 7]]), (3, [], [oN, oN, oS [0, 4, 6, 7, 18]]), (4, [], [oN, oN, oS [0, 4, 6, 7, 8]]), (5, [], [oN, oS [0, 4, 6, 7, 8, 22]]), (6, [], [oN, oN, oN, oN, oS [4, 6, 7, 23, 27], oN, oN, oS [4, 6, 7]]), (7, [], [oN, oS [4, 6, 7, 8, 31]]), (8, [], [oN, oN, oN, oN, oS [4, 6, 7, 33, 36], oN, oN, oS [4, 6, 7]]), (9, [], [oN, oS [4, 6, 7, 40]]), (10, [], [oN, oN, oN, oS [4, 6, 7]]), (11, [], [oN, oN, oN, oN, oS [4, 6, 7]]), (12, [], [oN, oN, oN, oS [4, 5]])] Tryd.f47 = some ⟨2, 50, [.c 4 3 true, .t 5], (tH s47_17)⟩ := by kernel_rfl
theorem v_spec_l25Any (hl : vs.length = 2) (h : wpV Tryd.prog (tH s47_17) (postV [.c 4 3 true, .t 5] RV) (envV vs) M) : VCall Tryd.prog n_spec_l25Any vs M RV :=
  vcall_of_wp (fun _ _ _ hl h => acall_of_wp mixed Tryd.func47 c47 (by kernel_rfl) hl h) hl h
@[go_sem] def l23_0 (_ : Unit) : KL := [kA 2 (.alloc [(.sl none 0 0 true 0), (.int .i64 0), (.sl none 0 0 true 0)]),
  kB 3 (.mv (cI 0)) [0, 2]]
@[go_sem] def l23_1 (_ : Unit) : KL := [kA 4 (.mv (.t 0)),
  kA 5 (.call (n_spec_l40Open) [(.t 4)]),
  kA 6 (.call (n_spec_l25Any) [(.t 5), (.c (.int .i64 8))]),
  kA 7 (.ext (.t 6) 0),
  kB 8 (.ext (.t 6) 1) [2, 7, 8],
  (⟨none, .store (.t 2) 3 (.t 7), none⟩, none),
  kB 3 (.mv (.t 8)) [2, 3]]
@[go_sem] def s23_2 (_ : Unit) : IR := (sQ [(kT l23_0), (kT l23_1), .ret])
theorem c23 : compFn Tryd.prog [(0, [], [oN, oS [0, 2]]), (1, [], [oN, oN, oN, oN, oS [2, 7, 8], oN, oS [2, 3]])] Tryd.f23 = some ⟨1, 9, [.c 2 3 true, .t 3], (tH s23_2)⟩ := by kernel_rfl
theorem v_spec_DrawFoldedGraph (hl : vs.length = 1) (h : wpV Tryd.prog (tH s23_2) (postV [.c 2 3 true, .t 3] RV) (envV vs) M) : VCall Tryd.prog n_spec_DrawFoldedGraph vs M RV :=
  vcall_of_wp (fun _ _ _ hl h => acall_of_wp mixed Tryd.func23 c23 (by kernel_rfl) hl h) hl h
@[go_sem] def l40_0 (_ : Unit) : KL := [kB 6 (.mv (.c (.bool false))) [0, 1, 2]]
@[go_sem] def l40_1 (_ : Unit) : KL := [kA 7 (.mv (.t 0)),
  kA 8 (.mv (.t 1)),
  kA 9 (.bin .geq (.t 7) (.t 8)),
  kA 10 (.mv (.t 9)),
  (⟨(some 11), .mv (.t 0), (some (10, true))⟩, (some [2, 10, 11])),
  (⟨(some 12), .mv (.t 2), (some (10, true))⟩, none),
  (⟨(some 13), .bin .leq (.t 11) (.t 12), (some (10, true))⟩, none),
  kA 14 (.pick (.t 10) (.t 13) (.c (.bool false))),
  kB 6 (.mv (.t 14)) [6]]
@[go_sem] def s40_2 (_ : Unit) : IR := (sQ [(kT l40_0), (kT l40_1), .ret])
theorem c40 : compFn Tryd.prog [(0, [], [oS [0, 1, 2]]), (1, [], [oN, oN, oN, oN, oS [2, 10, 11], oN, oN, oN, oS [6]])] Tryd.f40 = some ⟨3, 15, [.t 6], (tH s40_2)⟩ := by kernel_rfl
theorem v_impl_in (hl : vs.length = 3) (h : wpV Tryd.prog (tH s40_2) (postV [.t 6] RV) (envV vs) M) : VCall Tryd.prog n_impl_in vs M RV :=
  vcall_of_wp (fun _ _ _ hl h => acall_of_wp mixed Tryd.func40 c40 (by kernel_rfl) hl h) hl h
@[go_sem] def l67_0 (_ : Unit) : KL := [kB 4 (.mv (cI 0)) [0, 1]]
@[go_sem] def l67_1 (_ : Unit) : KL := [kA 6 (.mv (.t 0)),
  kA 7 (.len (.t 6)),
  kB 8 (.mv (cI 0)) [0, 1, 7, 8]]
@[go_sem] def l67_2 (_ : Unit) : KL := [kB 9 (.bin .lss (.t 8) (.t 7)) [0, 1, 7, 8, 9]]
@[go_sem] def l67_3 (_ : Unit) : KL := [kA 10 (.mv (.t 8)),
  kB 5 (.mv (.t 10)) [0, 1, 5, 7, 8]]
@[go_sem] def l67_4 (_ : Unit) : KL := [kA 11 (.mv (.t 1)),
  kA 12 (.mv (.t 0)),
  kA 13 (.mv (.t 5)),
  kA 14 (.iaddr (.t 12) (.t 13) 1),
  kB 15 (.load (.t 14) 1 false) [0, 1, 5, 7, 8, 11, 15],
  kB 16 (.callv (.t 11) [(.t 15)]) [0, 1, 5, 7, 8, 16]]
@[go_sem] def l67_5 (_ : Unit) : KL := [kA 17 (.mv (.t 5)),
  kB 4 (.mv (.t 17)) [4]]
@[go_sem] def s67_6 (_ : Unit) : IR := (sQ [(kT l67_5), .ret])
@[go_sem] def s67_7 (_ : Unit) : IR := (sQ [(kT l67_3), (kT l67_4), (.cond (.t 16) (tH s67_6) .skip)])
@[go_sem] def s67_8 (_ : Unit) : IR := (.block 1 (tH s67_7))
@[go_sem] def l67_9 (_ : Unit) : KL := [kA 18 (.bin .add (.t 8) (cI 1)),
  kB 8 (.mv (.t 18)) [0, 1, 7, 8]]
@[go_sem] def s67_10 (_ : Unit) : IR := (sQ [(kT l67_2), (.cond (.t 9) .skip (.exit 0)), (tH s67_8), (kT l67_9)])
@[go_sem] def s67_11 (_ : Unit) : IR := (.loop (tH s67_10))
@[go_sem] def s67_12 (_ : Unit) : IR := (.block 0 (tH s67_11))
@[go_sem] def s67_13 (_ : Unit) : IR := (sQ [(kT l67_1), (tH s67_12)])
@[go_sem] def l67_14 (_ : Unit) : KL := [kB 4 (.mv (.c (.int .i64 (-1)))) [4]]
@[go_sem] def s67_15 (_ : Unit) : IR := (sQ [(kT l67_0), (tH s67_13), (kT l67_14), .ret])
theorem c67 : compFn Tryd.prog [(0, [], [oS [0, 1]]), (1, [], [oN, oN, oS [0, 1, 7, 8]]), (2, [], [oS [0, 1, 7, 8, 9]]), (3, [], [oN, oS [0, 1, 5, 7, 8]]), (4, [], [oN, oN, oN, oN, oS [0, 1, 5, 7, 8, 11, 15], oS [0, 1, 5, 7, 8, 16]]), (5, [], [oN, oS [4]]), (6, [], [oN, oS [0, 1, 7, 8]]), (7, [], [oS [4]])] Tryd.f67 = some ⟨2, 19, [.t 4], (tH s67_15)⟩ := by kernel_rfl
theorem v_slices_IndexFunc_Sint_int (hl : vs.length = 2) (h : wpV Tryd.prog (tH s67_15) (postV [.t 4] RV) (envV vs) M) : VCall Tryd.prog n_slices_IndexFunc_Sint_int vs M RV :=
  vcall_of_wp (fun _ _ _ hl h => acall_of_wp mixed Tryd.func67 c67 (by kernel_rfl) hl h) hl h
@[go_sem] def l42_0 (_ : Unit) : KL := [kB 4 (.mv (.c (.bool false))) [0, 1]]
@[go_sem] def l42_1 (_ : Unit) : KL := [kA 5 (.mv (.t 0)),
  kA 6 (.mv (.t 1)),
  kA 7 (.call (n_slices_IndexFunc_Sint_int) [(.t 5), (.t 6)]),
  kA 8 (.bin .geq (.t 7) (cI 0)),
  kB 4 (.mv (.t 8)) [4]]
@[go_sem] def s42_2 (_ : Unit) : IR := (sQ [(kT l42_0), (kT l42_1), .ret])
theorem c42 : compFn Tryd.prog [(0, [], [oS [0, 1]]), (1, [], [oN, oN, oN, oN, oS [4]])] Tryd.f42 = some ⟨2, 9, [.t 4], (tH s42_2)⟩ := by kernel_rfl
theorem v_slices_ContainsFunc_Sint_int (hl : vs.length = 2) (h : wpV Tryd.prog (tH s42_2) (postV [.t 4] RV) (envV vs) M) : VCall Tryd.prog n_slices_ContainsFunc_Sint_int vs M RV :=
  vcall_of_wp (fun _ _ _ hl h => acall_of_wp mixed Tryd.func42 c42 (by kernel_rfl) hl h) hl h
@[go_sem] def l88_0 (_ : Unit) : KL := [kB 2 (.mv (.c (.bool false))) [0]]
@[go_sem] def l88_1 (_ : Unit) : KL := [kA 3 (.mv (.t 0)),
  kA 4 (.call (n_impl_in) [(.t 3), (cI 0), (cI 1)]),
  kA 5 (.un .not (.t 4)),
  kB 2 (.mv (.t 5)) [2]]
@[go_sem] def s88_2 (_ : Unit) : IR := (sQ [(kT l88_0), (kT l88_1), .ret])
theorem c88 : compFn Tryd.prog [(0, [], [oS [0]]), (1, [], [oN, oN, oN, oS [2]])] Tryd.f88 = some ⟨1, 6, [.t 2], (tH s88_2)⟩ := by kernel_rfl
theorem v_impl_bitsValid_1 (hl : vs.length = 1) (h : wpV Tryd.prog (tH s88_2) (postV [.t 2] RV) (envV vs) M) : VCall Tryd.prog n_impl_bitsValid_1 vs M RV :=
  vcall_of_wp (fun _ _ _ hl h => acall_of_wp mixed Tryd.func88 c88 (by kernel_rfl) hl h) hl h
@[go_sem] def l72_0 (_ : Unit) : KL := [kB 2 (.mv (.c (.bool false))) [0]]
@[go_sem] def l72_1 (_ : Unit) : KL := [kA 3 (.mv (.t 0)),
  kA 4 (.call (n_slices_ContainsFunc_Sint_int) [(.t 3), (.c (.fn (n_impl_bitsValid_1) []))]),
  kA 5 (.un .not (.t 4)),
  kB 2 (.mv (.t 5)) [2]]
@[go_sem] def s72_2 (_ : Unit) : IR := (sQ [(kT l72_0), (kT l72_1), .ret])
theorem c72 : compFn Tryd.prog [(0, [], [oS [0]]), (1, [], [oN, oN, oN, oS [2]])] Tryd.f72 = some ⟨1, 6, [.t 2], (tH s72_2)⟩ := by kernel_rfl
theorem v_impl_bitsValid (hl : vs.length = 1) (h : wpV Tryd.prog (tH s72_2) (postV [.t 2] RV) (envV vs) M) : VCall Tryd.prog n_impl_bitsValid vs M RV :=
  vcall_of_wp (fun _ _ _ hl h => acall_of_wp mixed Tryd.func72 c72 (by kernel_rfl) hl h) hl h
@[go_sem] def l54_0 (_ : Unit) : KL := [kB 4 (.mv (.c (.bool false))) [0, 1]]
@[go_sem] def l54_1 (_ : Unit) : KL := [kA 5 (.mv (.t 0)),
  kA 6 (.len (.t 5)),
  kA 7 (.mv (.t 1)),
  kA 8 (.bin .eql (.t 6) (.t 7)),
  kB 9 (.mv (.t 8)) [0, 9],
  (⟨(some 10), .mv (.t 0), (some (9, true))⟩, none),
  (⟨(some 11), .call (n_impl_bitsValid) [(.t 10)], (some (9, true))⟩, none),
  kA 12 (.pick (.t 9) (.t 11) (.c (.bool false))),
  kB 4 (.mv (.t 12)) [4]]
@[go_sem] def s54_2 (_ : Unit) : IR := (sQ [(kT l54_0), (kT l54_1), .ret])
theorem c54 : compFn Tryd.prog [(0, [], [oS [0, 1]]), (1, [], [oN, oN, oN, oN, oS [0, 9], oN, oN, oN, oS [4]])] Tryd.f54 = some ⟨2, 13, [.t 4], (tH s54_2)⟩ := by kernel_rfl
theorem v_impl_letterOk (hl : vs.length = 2) (h : wpV Tryd.prog (tH s54_2) (postV [.t 4] RV) (envV vs) M) : VCall Tryd.prog n_impl_letterOk vs M RV :=
  vcall_of_wp (fun _ _ _ hl h => acall_of_wp mixed Tryd.func54 c54 (by kernel_rfl) hl h) hl h
@[go_sem] def l55_0 (_ : Unit) : KL := [kB 4 (.mv (.c (.bool false))) [0, 1]]
@[go_sem] def l55_1 (_ : Unit) : KL := [kA 7 (.mv (.t 0)),
  kA 8 (.len (.t 7)),
  kB 9 (.mv (cI 0)) [0, 1, 7, 8, 9]]
@[go_sem] def l55_2 (_ : Unit) : KL := [kB 10 (.bin .lss (.t 9) (.t 8)) [0, 1, 7, 8, 9, 10]]
@[go_sem] def l55_3 (_ : Unit) : KL := [kA 11 (.mv (.t 9)),
  kA 12 (.iaddr (.t 7) (.t 9) 1),
  kA 13 (.load (.t 12) 1 false),
  kA 5 (.mv (.t 11)),
  kB 6 (.mv (.t 13)) [0, 1, 5, 6, 7, 8, 9]]
@[go_sem] def l55_4 (_ : Unit) : KL := [kA 14 (.mv (.t 6)),
  kA 15 (.mv (.t 1)),
  kA 16 (.bin .sub (.t 15) (cI 1)),
  kA 17 (.call (n_impl_in) [(.t 14), (cI 0), (.t 16)]),
  kB 18 (.un .not (.t 17)) [0, 1, 5, 6, 7, 8, 9, 18],
  kA 19 (.mv (.t 18)),
  (⟨(some 20), .mv (.t 5), (some (19, false))⟩, none),
  (⟨(some 21), .bin .gtr (.t 20) (cI 0), (some (19, false))⟩, none),
  (⟨(some 22), .mv (.t 21), (some (19, false))⟩, none),
  (⟨(some 23), .mv (.t 0), (some (22, true))⟩, (some [0, 1, 5, 6, 7, 8, 9, 19, 22, 23])),
  (⟨(some 24), .mv (.t 5), (some (22, true))⟩, none),
  (⟨(some 25), .bin .sub (.t 24) (cI 1), (some (22, true))⟩, none),
  (⟨(some 26), .iaddr (.t 23) (.t 25) 1, (some (22, true))⟩, none),
  (⟨(some 27), .load (.t 26) 1 false, (some (22, true))⟩, none),
  (⟨(some 28), .mv (.t 6), (some (22, true))⟩, (some [0, 1, 7, 8, 9, 19, 22, 27, 28])),
  (⟨(some 29), .bin .geq (.t 27) (.t 28), (some (22, true))⟩, none),
  (⟨(some 30), .pick (.t 22) (.t 29) (.c (.bool false)), (some (19, false))⟩, none),
  kB 31 (.pick (.t 19) (.c (.bool true)) (.t 30)) [0, 1, 7, 8, 9, 31]]
@[go_sem] def l55_5 (_ : Unit) : KL := [kB 4 (.mv (.c (.bool false))) [4]]
@[go_sem] def s55_6 (_ : Unit) : IR := (sQ [(kT l55_5), .ret])
@[go_sem] def s55_7 (_ : Unit) : IR := (sQ [(kT l55_3), (kT l55_4), (.cond (.t 31) (tH s55_6) .skip)])
@[go_sem] def s55_8 (_ : Unit) : IR := (.block 1 (tH s55_7))
@[go_sem] def l55_9 (_ : Unit) : KL := [kA 32 (.bin .add (.t 9) (cI 1)),
  kB 9 (.mv (.t 32)) [0, 1, 7, 8, 9]]
@[go_sem] def s55_10 (_ : Unit) : IR := (sQ [(kT l55_2), (.cond (.t 10) .skip (.exit 0)), (tH s55_8), (kT l55_9)])
@[go_sem] def s55_11 (_ : Unit) : IR := (.loop (tH s55_10))
@[go_sem] def s55_12 (_ : Unit) : IR := (.block 0 (tH s55_11))
@[go_sem] def s55_13 (_ : Unit) : IR := (sQ [(kT l55_1), (tH s55_12)])
@[go_sem] def l55_14 (_ : Unit) : KL := [kB 4 (.mv (.c (.bool true))) [4]]
@[go_sem] def s55_15 (_ : Unit) : IR := (sQ [(kT l55_0), (tH s55_13), (kT l55_14), .ret])
theorem c55 : compFn Tryd.prog [(0, [], [oS [0, 1]]), (1, [], [oN, oN, oS [0, 1, 7, 8, 9]]), (2, [], [oS [0, 1, 7, 8, 9, 10]]), (3, [], [oN, oN, oN, oN, oS [0, 1, 5, 6, 7, 8, 9]]), (4, [], [oN, oN, oN, oN, oS [0, 1, 5, 6, 7, 8, 9, 18], oN, oN, oN, oN, oS [0, 1, 5, 6, 7, 8, 9, 19, 22, 23], oN, oN, oN, oN, oS [0, 1, 7, 8, 9, 19, 22, 27, 28], oN, oN, oS [0, 1, 7, 8, 9, 31]]), (5, [], [oS [4]]), (6, [], [oN, oS [0, 1, 7, 8, 9]]), (7, [], [oS [4]])] Tryd.f55 = some ⟨2, 33, [.t 4], (tH s55_15)⟩ := by kernel_rfl
theorem v_impl_setOk (hl : vs.length = 2) (h : wpV Tryd.prog (tH s55_15) (postV [.t 4] RV) (envV vs) M) : VCall Tryd.prog n_impl_setOk vs M RV :=
  vcall_of_wp (fun _ _ _ hl h => acall_of_wp mixed Tryd.func55 c55 (by kernel_rfl) hl h) hl h
@[go_sem] def l26_0 (_ : Unit) : KL := [kA 2 (.box (.t 0)),
  kB 4 (.mv (.c (.bool false))) [1, 2]]
@[go_sem] def l26_1 (_ : Unit) : KL := [kA 8 (.faddr (.t 2) 0),
  kA 9 (.load (.t 8) 1 false),
  kA 10 (.len (.t 9)),
  kB 5 (.mv (.t 10)) [1, 2, 5]]
@[go_sem] def l26_2 (_ : Unit) : KL := [kA 11 (.mv (.t 1)),
  kA 12 (.call (n_impl_in) [(.t 11), (cI 0), (.c (.int .i64 4))]),
  kA 13 (.un .not (.t 12)),
  kA 14 (.mv (.t 13)),
  (⟨(some 15), .mv (.t 5), (some (14, false))⟩, (some [1, 2, 5, 14, 15])),
  (⟨(some 16), .call (n_impl_in) [(.t 15), (cI 1), (.c (.int .i64 400))], (some (14, false))⟩, none),
  (⟨(some 17), .un .not (.t 16), (some (14, false))⟩, none),
  kA 18 (.pick (.t 14) (.c (.bool true)) (.t 17)),
  kA 19 (.mv (.t 18)),
  (⟨(some 20), .faddr (.t 2) 1, (some (19, false))⟩, (some [1, 2, 5, 19, 20])),
  (⟨(some 21), .load (.t 20) 1 false, (some (19, false))⟩, none),
  (⟨(some 22), .mv (.t 5), (some (19, false))⟩, none),
  (⟨(some 23), .bin .sub (.t 22) (cI 1), (some (19, false))⟩, none),
  (⟨(some 24), .call (n_impl_in) [(.t 21), (cI 0), (.t 23)], (some (19, false))⟩, none),
  (⟨(some 25), .un .not (.t 24), (some (19, false))⟩, (some [1, 2, 5, 19, 25])),
  kA 26 (.pick (.t 19) (.c (.bool true)) (.t 25)),
  kA 27 (.mv (.t 26)),
  (⟨(some 28), .faddr (.t 2) 2, (some (27, false))⟩, none),
  (⟨(some 29), .load (.t 28) 1 false, (some (27, false))⟩, none),
  (⟨(some 30), .len (.t 29), (some (27, false))⟩, (some [1, 2, 5, 27, 30])),
  (⟨(some 31), .mv (.t 5), (some (27, false))⟩, none),
  (⟨(some 32), .bin .neq (.t 30) (.t 31), (some (27, false))⟩, none),
  kB 33 (.pick (.t 27) (.c (.bool true)) (.t 32)) [1, 2, 5, 33]]
@[go_sem] def l26_3 (_ : Unit) : KL := [kB 4 (.mv (.c (.bool false))) [4]]
@[go_sem] def s26_4 (_ : Unit) : IR := (sQ [(kT l26_3), .ret])
@[go_sem] def s26_5 (_ : Unit) : IR := (sQ [(kT l26_2), (.cond (.t 33) (tH s26_4) .skip)])
@[go_sem] def l26_6 (_ : Unit) : KL := [kA 34 (.faddr (.t 2) 2),
  kA 35 (.load (.t 34) 1 false),
  kA 36 (.len (.t 35)),
  kB 37 (.mv (cI 0)) [1, 2, 5, 35, 36, 37]]
@[go_sem] def l26_7 (_ : Unit) : KL := [kB 38 (.bin .lss (.t 37) (.t 36)) [1, 2, 5, 35, 36, 37, 38]]
@[go_sem] def l26_8 (_ : Unit) : KL := [kA 39 (.mv (.t 37)),
  kA 40 (.iaddr (.t 35) (.t 37) 1),
  kA 41 (.load (.t 40) 1 false),
  kA 6 (.mv (.t 39)),
  kB 7 (.mv (.t 41)) [1, 2, 5, 6, 7, 35, 36, 37]]
@[go_sem] def l26_9 (_ : Unit) : KL := [kA 42 (.faddr (.t 2) 0),
  kA 43 (.load (.t 42) 1 false),
  kA 44 (.mv (.t 6)),
  kA 45 (.iaddr (.t 43) (.t 44) 1),
  kB 46 (.load (.t 45) 1 false) [1, 2, 5, 7, 35, 36, 37, 46],
  kA 47 (.mv (.t 1)),
  kA 48 (.call (n_impl_letterOk) [(.t 46), (.t 47)]),
  kA 49 (.un .not (.t 48)),
  kA 50 (.mv (.t 49)),
  (⟨(some 51), .mv (.t 7), (some (50, false))⟩, (some [1, 2, 5, 7, 35, 36, 37, 50, 51])),
  (⟨(some 52), .len (.t 51), (some (50, false))⟩, none),
  (⟨(some 53), .bin .eql (.t 52) (cI 0), (some (50, false))⟩, none),
  kA 54 (.pick (.t 50) (.c (.bool true)) (.t 53)),
  kA 55 (.mv (.t 54)),
  (⟨(some 56), .mv (.t 7), (some (55, false))⟩, (some [1, 2, 5, 35, 36, 37, 55, 56])),
  (⟨(some 57), .mv (.t 5), (some (55, false))⟩, none),
  (⟨(some 58), .call (n_impl_setOk) [(.t 56), (.t 57)], (some (55, false))⟩, none),
  (⟨(some 59), .un .not (.t 58), (some (55, false))⟩, none),
  kB 60 (.pick (.t 55) (.c (.bool true)) (.t 59)) [1, 2, 5, 35, 36, 37, 60]]
@[go_sem] def l26_10 (_ : Unit) : KL := [kB 4 (.mv (.c (.bool false))) [4]]
@[go_sem] def s26_11 (_ : Unit) : IR := (sQ [(kT l26_10), .ret])
@[go_sem] def s26_12 (_ : Unit) : IR := (sQ [(kT l26_8), (kT l26_9), (.cond (.t 60) (tH s26_11) .skip)])
@[go_sem] def s26_13 (_ : Unit) : IR := (.block 1 (tH s26_12))
@[go_sem] def l26_14 (_ : Unit) : KL := [kA 61 (.bin .add (.t 37) (cI 1)),
  kB 37 (.mv (.t 61)) [1, 2, 5, 35, 36, 37]]
@[go_sem] def s26_15 (_ : Unit) : IR := (sQ [(kT l26_7), (.cond (.t 38) .skip (.exit 0)), (tH s26_13), (kT l26_14)])
@[go_sem] def s26_16 (_ : Unit) : IR := (.loop (tH s26_15))
@[go_sem] def s26_17 (_ : Unit) : IR := (.block 0 (tH s26_16))
@[go_sem] def s26_18 (_ : Unit) : IR := (sQ [(kT l26_6), (tH s26_17)])
@[go_sem] def l26_19 (_ : Unit) : KL := [kB 4 (.mv (.c (.bool true))) [4]]
@[go_sem] def s26_20 (_ : Unit) : IR := (sQ [(kT l26_0), (kT l26_1), (tH s26_5), (tH s26_18), (kT l26_19), .ret])
theorem c26 : compFn Tryd.prog [(0, [], [oN, oS [1, 2]]), (1, [], [oN, oN, oN, oS [1, 2, 5]]), (2, [], [oN, oN, oN, oN, oS [1, 2, 5, 14, 15], oN, oN, oN, oN, oS [1, 2, 5, 19, 20], oN, oN, oN, oN, oS [1, 2, 5, 19, 25], oN, oN, oN, oN, oS [1, 2, 5, 27, 30], oN, oN, oS [1, 2, 5, 33]]), (3, [], [oS [4]]), (4, [], [oN, oN, oN, oS [1, 2, 5, 35, 36, 37]]), (5, [], [oS [1, 2, 5, 35, 36, 37, 38]]), (6, [], [oN, oN, oN, oN, oS [1, 2, 5, 6, 7, 35, 36, 37]]), (7, [], [oN, oN, oN, oN, oS [1, 2, 5, 7, 35, 36, 37, 46], oN, oN, oN, oN, oS [1, 2, 5, 7, 35, 36, 37, 50, 51], oN, oN, oN, oN, oS [1, 2, 5, 35, 36, 37, 55, 56], oN, oN, oN, oS [1, 2, 5, 35, 36, 37, 60]]), (8, [], [oS [4]]), (9, [], [oN, oS [1, 2, 5, 35, 36, 37]]), (10, [], [oS [4]])] Tryd.f26 = some ⟨2, 62, [.t 4], (tH s26_20)⟩ := by kernel_rfl
theorem v_impl_GraphValid (hl : vs.length = 2) (h : wpV Tryd.prog (tH s26_20) (postV [.t 4] RV) (envV vs) M) : VCall Tryd.prog n_impl_GraphValid vs M RV :=
  vcall_of_wp (fun _ _ _ hl h => acall_of_wp mixed Tryd.func26 c26 (by kernel_rfl) hl h) hl h
@[go_sem] def l86_0 (_ : Unit) : KL := [kB 2 (.mv (cI 0)) [0, 2]]
@[go_sem] def l86_1 (_ : Unit) : KL := [kA 3 (.mv (.t 0)),
  kB 4 (.bin .geq (.t 3) (.c (.int .u32 65536))) [0, 2, 4]]
@[go_sem] def l86_2 (_ : Unit) : KL := [kA 5 (.mv (.t 0)),
  kA 6 (.bin .shr (.t 5) (.c (.int .u64 16))),
  kB 0 (.mv (.t 6)) [0]]
@[go_sem] def l86_3 (_ : Unit) : KL := [kB 2 (.mv (.c (.int .i64 16))) [0, 2]]
@[go_sem] def s86_4 (_ : Unit) : IR := (sQ [(kT l86_2), (kT l86_3)])
@[go_sem] def s86_5 (_ : Unit) : IR := (sQ [(kT l86_1), (.cond (.t 4) (tH s86_4) .skip)])
@[go_sem] def l86_6 (_ : Unit) : KL := [kA 7 (.mv (.t 0)),
  kB 8 (.bin .geq (.t 7) (.c (.int .u32 256))) [0, 2, 8]]
@[go_sem] def l86_7 (_ : Unit) : KL := [kA 9 (.mv (.t 0)),
  kA 10 (.bin .shr (.t 9) (.c (.int .u64 8))),
  kB 0 (.mv (.t 10)) [0, 2]]
@[go_sem] def l86_8 (_ : Unit) : KL := [kA 11 (.mv (.t 2)),
  kA 12 (.bin .add (.t 11) (.c (.int .i64 8))),
  kB 2 (.mv (.t 12)) [0, 2]]
@[go_sem] def s86_9 (_ : Unit) : IR := (sQ [(kT l86_7), (kT l86_8)])
@[go_sem] def s86_10 (_ : Unit) : IR := (sQ [(kT l86_6), (.cond (.t 8) (tH s86_9) .skip)])
@[go_sem] def l86_11 (_ : Unit) : KL := [kA 13 (.mv (.t 2)),
  kA 14 (.mv (.t 0)),
  kA 15 (.cvi .u8 (.t 14)),
  kA 16 (.sidx (.c (.str ⟨#[0, 1, 2, 2, 3, 3, 3, 3, 4, 4, 4, 4, 4, 4, 4, 4, 5, 5, 5, 5, 5, 5, 5, 5, 5, 5, 5, 5, 5, 5, 5, 5, 6, 6, 6, 6, 6, 6, 6, 6, 6, 6, 6, 6, 6, 6, 6, 6, 6, 6, 6, 6, 6, 6, 6, 6, 6, 6, 6, 6, 6, 6, 6, 6, 7, 7, 7, 7, 7, 7, 7, 7, 7, 7, 7, 7, 7, 7, 7, 7, 7, 7, 7, 7, 7, 7, 7, 7, 7, 7, 7, 7, 7, 7, 7, 7, 7, 7, 7, 7, 7, 7, 7, 7, 7, 7, 7, 7, 7, 7, 7, 7, 7, 7, 7, 7, 7, 7, 7, 7, 7, 7, 7, 7, 7, 7, 7, 7, 8, 8, 8, 8, 8, 8, 8, 8, 8, 8, 8, 8, 8, 8, 8, 8, 8, 8, 8, 8, 8, 8, 8, 8, 8, 8, 8, 8, 8, 8, 8, 8, 8, 8, 8, 8, 8, 8, 8, 8, 8, 8, 8, 8, 8, 8, 8, 8, 8, 8, 8, 8, 8, 8, 8, 8, 8, 8, 8, 8, 8, 8, 8, 8, 8, 8, 8, 8, 8, 8, 8, 8, 8, 8, 8, 8, 8, 8, 8, 8, 8, 8, 8, 8, 8, 8, 8, 8, 8, 8, 8, 8, 8, 8, 8, 8, 8, 8, 8, 8, 8, 8, 8, 8, 8, 8, 8, 8, 8, 8, 8, 8, 8, 8, 8, 8, 8, 8, 8, 8, 8, 8, 8, 8, 8, 8, 8, 8]⟩)) (.t 15)),
  kB 17 (.cvi .i64 (.t 16)) [13, 17],
  kA 18 (.bin .add (.t 13) (.t 17)),
  kB 2 (.mv (.t 18)) [2]]
@[go_sem] def s86_12 (_ : Unit) : IR := (sQ [(kT l86_0), (tH s86_5), (tH s86_10), (kT l86_11), .ret])
@[go_sem] def l87_0 (_ : Unit) : KL := [kB 2 (.mv (cI 0)) [0, 2]]
@[go_sem] def l87_1 (_ : Unit) : KL := [kA 3 (.mv (.t 0)),
  kB 4 (.bin .geq (.t 3) (.c (.int .u64 4294967296))) [0, 2, 4]]
@[go_sem] def l87_2 (_ : Unit) : KL := [kA 5 (.mv (.t 0)),
  kA 6 (.bin .shr (.t 5) (.c (.int .u64 32))),
  kB 0 (.mv (.t 6)) [0]]
@[go_sem] def l87_3 (_ : Unit) : KL := [kB 2 (.mv (.c (.int .i64 32))) [0, 2]]
@[go_sem] def s87_4 (_ : Unit) : IR := (sQ [(kT l87_2), (kT l87_3)])
@[go_sem] def s87_5 (_ : Unit) : IR := (sQ [(kT l87_1), (.cond (.t 4) (tH s87_4) .skip)])
@[go_sem] def l87_6 (_ : Unit) : KL := [kA 7 (.mv (.t 0)),
  kB 8 (.bin .geq (.t 7) (.c (.int .u64 65536))) [0, 2, 8]]
@[go_sem] def l87_7 (_ : Unit) : KL := [kA 9 (.mv (.t 0)),
  kA 10 (.bin .shr (.t 9) (.c (.int .u64 16))),
  kB 0 (.mv (.t 10)) [0, 2]]
@[go_sem] def l87_8 (_ : Unit) : KL := [kA 11 (.mv (.t 2)),
  kA 12 (.bin .add (.t 11) (.c (.int .i64 16))),
  kB 2 (.mv (.t 12)) [0, 2]]
@[go_sem] def s87_9 (_ : Unit) : IR := (sQ [(kT l87_7), (kT l87_8)])
@[go_sem] def s87_10 (_ : Unit) : IR := (sQ [(kT l87_6), (.cond (.t 8) (tH s87_9) .skip)])
@[go_sem] def l87_11 (_ : Unit) : KL := [kA 13 (.mv (.t 0)),
  kB 14 (.bin .geq (.t 13) (.c (.int .u64 256))) [0, 2, 14]]
@[go_sem] def l87_12 (_ : Unit) : KL := [kA 15 (.mv (.t 0)),
  kA 16 (.bin .shr (.t 15) (.c (.int .u64 8))),
  kB 0 (.mv (.t 16)) [0, 2]]
@[go_sem] def l87_13 (_ : Unit) : KL := [kA 17 (.mv (.t 2)),
  kA 18 (.bin .add (.t 17) (.c (.int .i64 8))),
  kB 2 (.mv (.t 18)) [0, 2]]
@[go_sem] def s87_14 (_ : Unit) : IR := (sQ [(kT l87_12), (kT l87_13)])
@[go_sem] def s87_15 (_ : Unit) : IR := (sQ [(kT l87_11), (.cond (.t 14) (tH s87_14) .skip)])
@[go_sem] def l87_16 (_ : Unit) : KL := [kA 19 (.mv (.t 2)),
  kA 20 (.mv (.t 0)),
  kA 21 (.cvi .u8 (.t 20)),
  kA 22 (.sidx (.c (.str ⟨#[0, 1, 2, 2, 3, 3, 3, 3, 4, 4, 4, 4, 4, 4, 4, 4, 5, 5, 5, 5, 5, 5, 5, 5, 5, 5, 5, 5, 5, 5, 5, 5, 6, 6, 6, 6, 6, 6, 6, 6, 6, 6, 6, 6, 6, 6, 6, 6, 6, 6, 6, 6, 6, 6, 6, 6, 6, 6, 6, 6, 6, 6, 6, 6, 7, 7, 7, 7, 7, 7, 7, 7, 7, 7, 7, 7, 7, 7, 7, 7, 7, 7, 7, 7, 7, 7, 7, 7, 7, 7, 7, 7, 7, 7, 7, 7, 7, 7, 7, 7, 7, 7, 7, 7, 7, 7, 7, 7, 7, 7, 7, 7, 7, 7, 7, 7, 7, 7, 7, 7, 7, 7, 7, 7, 7, 7, 7, 7, 8, 8, 8, 8, 8, 8, 8, 8, 8, 8, 8, 8, 8, 8, 8, 8, 8, 8, 8, 8, 8, 8, 8, 8, 8, 8, 8, 8, 8, 8, 8, 8, 8, 8, 8, 8, 8, 8, 8, 8, 8, 8, 8, 8, 8, 8, 8, 8, 8, 8, 8, 8, 8, 8, 8, 8, 8, 8, 8, 8, 8, 8, 8, 8, 8, 8, 8, 8, 8, 8, 8, 8, 8, 8, 8, 8, 8, 8, 8, 8, 8, 8, 8, 8, 8, 8, 8, 8, 8, 8, 8, 8, 8, 8, 8, 8, 8, 8, 8, 8, 8, 8, 8, 8, 8, 8, 8, 8, 8, 8, 8, 8, 8, 8, 8, 8, 8, 8, 8, 8, 8, 8, 8, 8, 8, 8, 8, 8]⟩)) (.t 21)),
  kB 23 (.cvi .i64 (.t 22)) [19, 23],
  kA 24 (.bin .add (.t 19) (.t 23)),
  kB 2 (.mv (.t 24)) [2]]
@[go_sem] def s87_17 (_ : Unit) : IR := (sQ [(kT l87_0), (tH s87_5), (tH s87_10), (tH s87_15), (kT l87_16), .ret])
@[go_sem] def l71_0 (_ : Unit) : KL := [kB 2 (.mv (cI 0)) [0]]
@[go_sem] def l71_1 (_ : Unit) : KL := [kA 3 (.mv (.t 0)),
  kA 4 (.cvi .u32 (.t 3)),
  kA 5 (.call (n_math_bits_Len32) [(.t 4)]),
  kB 2 (.mv (.t 5)) [2]]
@[go_sem] def s71_2 (_ : Unit) : IR := (sQ [(kT l71_1), .ret])
@[go_sem] def l71_3 (_ : Unit) : KL := [kA 6 (.mv (.t 0)),
  kA 7 (.call (n_math_bits_Len64) [(.t 6)]),
  kB 2 (.mv (.t 7)) [2]]
@[go_sem] def s71_4 (_ : Unit) : IR := (sQ [(kT l71_0), (.cond (.c (.bool false)) (tH s71_2) .skip), (kT l71_3), .ret])
@[go_sem] def l95_0 (_ : Unit) : KL := [kB 2 (.mv (.c (.bool false))) [0]]
@[go_sem] def l95_1 (_ : Unit) : KL := [kA 3 (.mv (.t 0)),
  kA 4 (.mv (.t 0)),
  kA 5 (.bin .neq (.t 3) (.t 4)),
  kB 2 (.mv (.t 5)) [2]]
@[go_sem] def s95_2 (_ : Unit) : IR := (sQ [(kT l95_0), (kT l95_1), .ret])
@[go_sem] def l83_0 (_ : Unit) : KL := [kB 4 (.mv (.c (.bool false))) [0, 1]]
@[go_sem] def l83_1 (_ : Unit) : KL := [kA 5 (.mv (.t 0)),
  kA 6 (.call (n_cmp_isNaN_int) [(.t 5)]),
  kA 7 (.mv (.t 6)),
  (⟨(some 8), .mv (.t 1), (some (7, true))⟩, none),
  (⟨(some 9), .call (n_cmp_isNaN_int) [(.t 8)], (some (7, true))⟩, (some [0, 1, 7, 9])),
  (⟨(some 10), .un .not (.t 9), (some (7, true))⟩, none),
  kA 11 (.pick (.t 7) (.t 10) (.c (.bool false))),
  kA 12 (.mv (.t 11)),
  (⟨(some 13), .mv (.t 0), (some (12, false))⟩, none),
  (⟨(some 14), .mv (.t 1), (some (12, false))⟩, (some [12, 13, 14])),
  (⟨(some 15), .bin .lss (.t 13) (.t 14), (some (12, false))⟩, none),
  kA 16 (.pick (.t 12) (.c (.bool true)) (.t 15)),
  kB 4 (.mv (.t 16)) [4]]
@[go_sem] def s83_2 (_ : Unit) : IR := (sQ [(kT l83_0), (kT l83_1), .ret])
@[go_sem] def l77_0 (_ : Unit) : KL := [kA 8 (.mv (.t 1)),
  kA 9 (.bin .add (.t 8) (cI 1)),
  kB 6 (.mv (.t 9)) [0, 1, 2, 6]]
@[go_sem] def l77_1 (_ : Unit) : KL := [kA 10 (.mv (.t 6)),
  kA 11 (.mv (.t 2)),
  kB 12 (.bin .lss (.t 10) (.t 11)) [0, 1, 2, 6, 12]]
@[go_sem] def s77_2 (_ : Unit) : IR := (sQ [(kT l77_1), (.cond (.t 12) .skip (.exit 0))])
@[go_sem] def l77_3 (_ : Unit) : KL := [kA 15 (.mv (.t 6)),
  kB 7 (.mv (.t 15)) [0, 1, 2, 6, 7]]
@[go_sem] def l77_4 : Nat → GOp
  | 0 => ⟨(some 16), .mv (.t 7), none⟩
  | 1 => ⟨(some 17), .mv (.t 1), none⟩
  | 2 => ⟨(some 18), .bin .gtr (.t 16) (.t 17), none⟩
  | 3 => ⟨(some 19), .mv (.t 18), none⟩
  | 4 => ⟨(some 20), .mv (.t 0), (some (19, true))⟩
  | 5 => ⟨(some 21), .mv (.t 7), (some (19, true))⟩
  | 6 => ⟨(some 22), .iaddr (.t 20) (.t 21) 1, (some (19, true))⟩
  | 7 => ⟨(some 23), .load (.t 22) 1 false, (some (19, true))⟩
  | 8 => ⟨(some 24), .mv (.t 0), (some (19, true))⟩
  | 9 => ⟨(some 25), .mv (.t 7), (some (19, true))⟩
  | 10 => ⟨(some 26), .bin .sub (.t 25) (cI 1), (some (19, true))⟩
  | 11 => ⟨(some 27), .iaddr (.t 24) (.t 26) 1, (some (19, true))⟩
  | 12 => ⟨(some 28), .load (.t 27) 1 false, (some (19, true))⟩
  | 13 => ⟨(some 29), .call (n_cmp_Less_int) [(.t 23), (.t 28)], (some (19, true))⟩
  | 14 => ⟨(some 30), .pick (.t 19) (.t 29) (.c (.bool false)), none⟩
  | _ => ⟨none, .mkmap, none⟩
@[go_sem] def s77_5 (_ : Unit) : IR := (sQ [(.kd (oF l77_4 15) [(0, []), (1, []), (2, []), (3, []), (4, []), (5, []), (6, []), (7, []), (8, []), (9, []), (10, []), (11, []), (12, []), (13, []), (14, [])] [0, 1, 2, 6, 7, 30]), (.cond (.t 30) .skip (.exit 2))])
@[go_sem] def l77_6 : Nat → GOp
  | 0 => ⟨(some 33), .mv (.t 0), none⟩
  | 1 => ⟨(some 34), .mv (.t 7), none⟩
  | 2 => ⟨(some 35), .mv (.t 0), none⟩
  | 3 => ⟨(some 36), .mv (.t 7), none⟩
  | 4 => ⟨(some 37), .bin .sub (.t 36) (cI 1), none⟩
  | 5 => ⟨(some 38), .mv (.t 0), none⟩
  | 6 => ⟨(some 39), .mv (.t 7), none⟩
  | 7 => ⟨(some 40), .bin .sub (.t 39) (cI 1), none⟩
  | 8 => ⟨(some 41), .iaddr (.t 38) (.t 40) 1, none⟩
  | 9 => ⟨(some 42), .load (.t 41) 1 false, none⟩
  | 10 => ⟨(some 43), .mv (.t 0), none⟩
  | 11 => ⟨(some 44), .mv (.t 7), none⟩
  | 12 => ⟨(some 45), .iaddr (.t 43) (.t 44) 1, none⟩
  | 13 => ⟨(some 46), .load (.t 45) 1 false, none⟩
  | 14 => ⟨(some 47), .iaddr (.t 33) (.t 34) 1, none⟩
  | 15 => ⟨none, .store (.t 47) 1 (.t 42), none⟩
  | 16 => ⟨(some 48), .iaddr (.t 35) (.t 37) 1, none⟩
  | 17 => ⟨none, .store (.t 48) 1 (.t 46), none⟩
  | _ => ⟨none, .mkmap, none⟩
@[go_sem] def s77_7 (_ : Unit) : IR := (.block 3 (.kd (oF l77_6 18) [(0, []), (1, []), (2, []), (3, []), (4, []), (5, []), (6, []), (7, []), (8, []), (9, []), (10, []), (11, []), (12, []), (13, []), (14, []), (15, []), (16, []), (17, [])] [0, 1, 2, 6, 7]))
@[go_sem] def l77_8 (_ : Unit) : KL := [kA 31 (.mv (.t 7)),
  kA 32 (.bin .sub (.t 31) (cI 1)),
  kB 7 (.mv (.t 32)) [0, 1, 2, 6, 7]]
@[go_sem] def s77_9 (_ : Unit) : IR := (sQ [(tH s77_5), (tH s77_7), (kT l77_8)])
@[go_sem] def s77_10 (_ : Unit) : IR := (.loop (tH s77_9))
@[go_sem] def s77_11 (_ : Unit) : IR := (.block 2 (tH s77_10))
@[go_sem] def s77_12 (_ : Unit) : IR := (sQ [(kT l77_3), (tH s77_11)])
@[go_sem] def s77_13 (_ : Unit) : IR := (.block 1 (tH s77_12))
@[go_sem] def l77_14 (_ : Unit) : KL := [kA 13 (.mv (.t 6)),
  kA 14 (.bin .add (.t 13) (cI 1)),
  kB 6 (.mv (.t 14)) [0, 1, 2, 6]]
@[go_sem] def s77_15 (_ : Unit) : IR := (sQ [(tH s77_2), (tH s77_13), (kT l77_14)])
@[go_sem] def s77_16 (_ : Unit) : IR := (.loop (tH s77_15))
@[go_sem] def s77_17 (_ : Unit) : IR := (.block 0 (tH s77_16))
@[go_sem] def s77_18 (_ : Unit) : IR := (sQ [(kT l77_0), (tH s77_17)])
@[go_sem] def l90_0 (_ : Unit) : KL := [kA 10 (.mv (.t 1)),
  kB 8 (.mv (.t 10)) [0, 2, 3, 8]]
@[go_sem] def l90_1 (_ : Unit) : KL := [kA 11 (.mv (.t 8)),
  kA 12 (.bin .mul (.c (.int .i64 2)) (.t 11)),
  kA 13 (.bin .add (.t 12) (cI 1)),
  kB 9 (.mv (.t 13)) [0, 2, 3, 8, 9]]
@[go_sem] def l90_2 (_ : Unit) : KL := [kA 14 (.mv (.t 9)),
  kA 15 (.mv (.t 2)),
  kB 16 (.bin .geq (.t 14) (.t 15)) [0, 2, 3, 8, 9, 16]]
@[go_sem] def s90_3 (_ : Unit) : IR := (sQ [(kT l90_2), (.cond (.t 16) (.exit 0) .skip)])
@[go_sem] def l90_4 : Nat → GOp
  | 0 => ⟨(some 17), .mv (.t 9), none⟩
  | 1 => ⟨(some 18), .bin .add (.t 17) (cI 1), none⟩
  | 2 => ⟨(some 19), .mv (.t 2), none⟩
  | 3 => ⟨(some 20), .bin .lss (.t 18) (.t 19), none⟩
  | 4 => ⟨(some 21), .mv (.t 20), none⟩
  | 5 => ⟨(some 22), .mv (.t 0), (some (21, true))⟩
  | 6 => ⟨(some 23), .mv (.t 3), (some (21, true))⟩
  | 7 => ⟨(some 24), .mv (.t 9), (some (21, true))⟩
  | 8 => ⟨(some 25), .bin .add (.t 23) (.t 24), (some (21, true))⟩
  | 9 => ⟨(some 26), .iaddr (.t 22) (.t 25) 1, (some (21, true))⟩
  | 10 => ⟨(some 27), .load (.t 26) 1 false, (some (21, true))⟩
  | 11 => ⟨(some 28), .mv (.t 0), (some (21, true))⟩
  | 12 => ⟨(some 29), .mv (.t 3), (some (21, true))⟩
  | 13 => ⟨(some 30), .mv (.t 9), (some (21, true))⟩
  | 14 => ⟨(some 31), .bin .add (.t 29) (.t 30), (some (21, true))⟩
  | 15 => ⟨(some 32), .bin .add (.t 31) (cI 1), (some (21, true))⟩
  | 16 => ⟨(some 33), .iaddr (.t 28) (.t 32) 1, (some (21, true))⟩
  | 17 => ⟨(some 34), .load (.t 33) 1 false, (some (21, true))⟩
  | 18 => ⟨(some 35), .call (n_cmp_Less_int) [(.t 27), (.t 34)], (some (21, true))⟩
  | 19 => ⟨(some 36), .pick (.t 21) (.t 35) (.c (.bool false)), none⟩
  | _ => ⟨none, .mkmap, none⟩
@[go_sem] def l90_5 (_ : Unit) : KL := [kA 37 (.mv (.t 9)),
  kA 38 (.bin .add (.t 37) (cI 1)),
  kB 9 (.mv (.t 38)) [0, 2, 3, 8, 9]]
@[go_sem] def s90_6 (_ : Unit) : IR := (sQ [(.kd (oF l90_4 20) [(0, []), (1, []), (2, []), (3, []), (4, []), (5, []), (6, []), (7, []), (8, []), (9, []), (10, []), (11, []), (12, []), (13, []), (14, []), (15, []), (16, []), (17, []), (18, []), (19, [])] [0, 2, 3, 8, 9, 36]), (.cond (.t 36) (kT l90_5) .skip)])
@[go_sem] def l90_7 : Nat → GOp
  | 0 => ⟨(some 39), .mv (.t 0), none⟩
  | 1 => ⟨(some 40), .mv (.t 3), none⟩
  | 2 => ⟨(some 41), .mv (.t 8), none⟩
  | 3 => ⟨(some 42), .bin .add (.t 40) (.t 41), none⟩
  | 4 => ⟨(some 43), .iaddr (.t 39) (.t 42) 1, none⟩
  | 5 => ⟨(some 44), .load (.t 43) 1 false, none⟩
  | 6 => ⟨(some 45), .mv (.t 0), none⟩
  | 7 => ⟨(some 46), .mv (.t 3), none⟩
  | 8 => ⟨(some 47), .mv (.t 9), none⟩
  | 9 => ⟨(some 48), .bin .add (.t 46) (.t 47), none⟩
  | 10 => ⟨(some 49), .iaddr (.t 45) (.t 48) 1, none⟩
  | 11 => ⟨(some 50), .load (.t 49) 1 false, none⟩
  | 12 => ⟨(some 51), .call (n_cmp_Less_int) [(.t 44), (.t 50)], none⟩
  | 13 => ⟨(some 52), .un .not (.t 51), none⟩
  | _ => ⟨none, .mkmap, none⟩
@[go_sem] def s90_8 (_ : Unit) : IR := (sQ [(.kd (oF l90_7 14) [(0, []), (1, []), (2, []), (3, []), (4, []), (5, []), (6, []), (7, []), (8, []), (9, []), (10, []), (11, []), (12, []), (13, [])] [0, 2, 3, 8, 9, 52]), (.cond (.t 52) .ret .skip)])
@[go_sem] def l90_9 : Nat → GOp
  | 0 => ⟨(some 53), .mv (.t 0), none⟩
  | 1 => ⟨(some 54), .mv (.t 3), none⟩
  | 2 => ⟨(some 55), .mv (.t 8), none⟩
  | 3 => ⟨(some 56), .bin .add (.t 54) (.t 55), none⟩
  | 4 => ⟨(some 57), .mv (.t 0), none⟩
  | 5 => ⟨(some 58), .mv (.t 3), none⟩
  | 6 => ⟨(some 59), .mv (.t 9), none⟩
  | 7 => ⟨(some 60), .bin .add (.t 58) (.t 59), none⟩
  | 8 => ⟨(some 61), .mv (.t 0), none⟩
  | 9 => ⟨(some 62), .mv (.t 3), none⟩
  | 10 => ⟨(some 63), .mv (.t 9), none⟩
  | 11 => ⟨(some 64), .bin .add (.t 62) (.t 63), none⟩
  | 12 => ⟨(some 65), .iaddr (.t 61) (.t 64) 1, none⟩
  | 13 => ⟨(some 66), .load (.t 65) 1 false, none⟩
  | 14 => ⟨(some 67), .mv (.t 0), none⟩
  | 15 => ⟨(some 68), .mv (.t 3), none⟩
  | 16 => ⟨(some 69), .mv (.t 8), none⟩
  | 17 => ⟨(some 70), .bin .add (.t 68) (.t 69), none⟩
  | 18 => ⟨(some 71), .iaddr (.t 67) (.t 70) 1, none⟩
  | 19 => ⟨(some 72), .load (.t 71) 1 false, none⟩
  | 20 => ⟨(some 73), .iaddr (.t 53) (.t 56) 1, none⟩
  | 21 => ⟨none, .store (.t 73) 1 (.t 66), none⟩
  | 22 => ⟨(some 74), .iaddr (.t 57) (.t 60) 1, none⟩
  | 23 => ⟨none, .store (.t 74) 1 (.t 72), none⟩
  | _ => ⟨none, .mkmap, none⟩
@[go_sem] def l90_10 (_ : Unit) : KL := [kA 75 (.mv (.t 9)),
  kB 8 (.mv (.t 75)) [0, 2, 3, 8]]
@[go_sem] def s90_11 (_ : Unit) : IR := (sQ [(kT l90_1), (tH s90_3), (tH s90_6), (tH s90_8), (.kd (oF l90_9 24) [(0, []), (1, []), (2, []), (3, []), (4, []), (5, []), (6, []), (7, []), (8, []), (9, []), (10, []), (11, []), (12, []), (13, []), (14, []), (15, []), (16, []), (17, []), (18, []), (19, []), (20, []), (21, []), (22, []), (23, [])] [0, 2, 3, 9]), (kT l90_10)])
@[go_sem] def s90_12 (_ : Unit) : IR := (.block 1 (tH s90_11))
@[go_sem] def s90_13 (_ : Unit) : IR := (.loop (tH s90_12))
@[go_sem] def s90_14 (_ : Unit) : IR := (.block 0 (tH s90_13))
@[go_sem] def s90_15 (_ : Unit) : IR := (sQ [(kT l90_0), (tH s90_14)])
@[go_sem] def l78_0 (_ : Unit) : KL := [kA 11 (.mv (.t 1)),
  kB 6 (.mv (.t 11)) [0, 1, 2, 6]]
@[go_sem] def l78_1 (_ : Unit) : KL := [kB 7 (.mv (cI 0)) [0, 1, 2, 6, 7]]
@[go_sem] def l78_2 (_ : Unit) : KL := [kA 12 (.mv (.t 2)),
  kA 13 (.mv (.t 1)),
  kA 14 (.bin .sub (.t 12) (.t 13)),
  kB 8 (.mv (.t 14)) [0, 6, 7, 8]]
@[go_sem] def l78_3 (_ : Unit) : KL := [kA 15 (.mv (.t 8)),
  kA 16 (.bin .sub (.t 15) (cI 1)),
  kA 17 (.bin .quo (.t 16) (.c (.int .i64 2))),
  kB 9 (.mv (.t 17)) [0, 6, 7, 8, 9]]
@[go_sem] def l78_4 (_ : Unit) : KL := [kA 18 (.mv (.t 9)),
  kB 19 (.bin .geq (.t 18) (cI 0)) [0, 6, 7, 8, 9, 19]]
@[go_sem] def s78_5 (_ : Unit) : IR := (sQ [(kT l78_4), (.cond (.t 19) .skip (.exit 0))])
@[go_sem] def l78_6 (_ : Unit) : KL := [kA 22 (.mv (.t 0)),
  kA 23 (.mv (.t 9)),
  kA 24 (.mv (.t 8)),
  kA 25 (.mv (.t 6)),
  kB 26 (.call (n_slices_siftDownOrdered_int) [(.t 22), (.t 23), (.t 24), (.t 25)]) [0, 6, 7, 8, 9]]
@[go_sem] def s78_7 (_ : Unit) : IR := (.block 1 (kT l78_6))
@[go_sem] def l78_8 (_ : Unit) : KL := [kA 20 (.mv (.t 9)),
  kA 21 (.bin .sub (.t 20) (cI 1)),
  kB 9 (.mv (.t 21)) [0, 6, 7, 8, 9]]
@[go_sem] def s78_9 (_ : Unit) : IR := (sQ [(tH s78_5), (tH s78_7), (kT l78_8)])
@[go_sem] def s78_10 (_ : Unit) : IR := (.loop (tH s78_9))
@[go_sem] def s78_11 (_ : Unit) : IR := (.block 0 (tH s78_10))
@[go_sem] def s78_12 (_ : Unit) : IR := (sQ [(kT l78_3), (tH s78_11)])
@[go_sem] def l78_13 (_ : Unit) : KL := [kA 27 (.mv (.t 8)),
  kA 28 (.bin .sub (.t 27) (cI 1)),
  kB 10 (.mv (.t 28)) [0, 6, 7, 10]]
@[go_sem] def l78_14 (_ : Unit) : KL := [kA 29 (.mv (.t 10)),
  kB 30 (.bin .geq (.t 29) (cI 0)) [0, 6, 7, 10, 30]]
@[go_sem] def s78_15 (_ : Unit) : IR := (sQ [(kT l78_14), (.cond (.t 30) .skip (.exit 2))])
@[go_sem] def l78_16 : Nat → GOp
  | 0 => ⟨(some 33), .mv (.t 0), none⟩
  | 1 => ⟨(some 34), .mv (.t 6), none⟩
  | 2 => ⟨(some 35), .mv (.t 0), none⟩
  | 3 => ⟨(some 36), .mv (.t 6), none⟩
  | 4 => ⟨(some 37), .mv (.t 10), none⟩
  | 5 => ⟨(some 38), .bin .add (.t 36) (.t 37), none⟩
  | 6 => ⟨(some 39), .mv (.t 0), none⟩
  | 7 => ⟨(some 40), .mv (.t 6), none⟩
  | 8 => ⟨(some 41), .mv (.t 10), none⟩
  | 9 => ⟨(some 42), .bin .add (.t 40) (.t 41), none⟩
  | 10 => ⟨(some 43), .iaddr (.t 39) (.t 42) 1, none⟩
  | 11 => ⟨(some 44), .load (.t 43) 1 false, none⟩
  | 12 => ⟨(some 45), .mv (.t 0), none⟩
  | 13 => ⟨(some 46), .mv (.t 6), none⟩
  | 14 => ⟨(some 47), .iaddr (.t 45) (.t 46) 1, none⟩
  | 15 => ⟨(some 48), .load (.t 47) 1 false, none⟩
  | 16 => ⟨(some 49), .iaddr (.t 33) (.t 34) 1, none⟩
  | 17 => ⟨none, .store (.t 49) 1 (.t 44), none⟩
  | 18 => ⟨(some 50), .iaddr (.t 35) (.t 38) 1, none⟩
  | 19 => ⟨none, .store (.t 50) 1 (.t 48), none⟩
  | _ => ⟨none, .mkmap, none⟩
@[go_sem] def l78_17 (_ : Unit) : KL := [kA 51 (.mv (.t 0)),
  kA 52 (.mv (.t 7)),
  kA 53 (.mv (.t 10)),
  kA 54 (.mv (.t 6)),
  kB 55 (.call (n_slices_siftDownOrdered_int) [(.t 51), (.t 52), (.t 53), (.t 54)]) [0, 6, 7, 10]]
@[go_sem] def s78_18 (_ : Unit) : IR := (sQ [(.kd (oF l78_16 20) [(0, []), (1, []), (2, []), (3, []), (4, []), (5, []), (6, []), (7, []), (8, []), (9, []), (10, []), (11, []), (12, []), (13, []), (14, []), (15, []), (16, []), (17, []), (18, []), (19, [])] [0, 6, 7, 10]), (kT l78_17)])
@[go_sem] def s78_19 (_ : Unit) : IR := (.block 3 (tH s78_18))
@[go_sem] def l78_20 (_ : Unit) : KL := [kA 31 (.mv (.t 10)),
  kA 32 (.bin .sub (.t 31) (cI 1)),
  kB 10 (.mv (.t 32)) [0, 6, 7, 10]]
@[go_sem] def s78_21 (_ : Unit) : IR := (sQ [(tH s78_15), (tH s78_19), (kT l78_20)])
@[go_sem] def s78_22 (_ : Unit) : IR := (.loop (tH s78_21))
@[go_sem] def s78_23 (_ : Unit) : IR := (.block 2 (tH s78_22))
@[go_sem] def s78_24 (_ : Unit) : IR := (sQ [(kT l78_0), (kT l78_1), (kT l78_2), (tH s78_12), (kT l78_13), (tH s78_23)])
@[go_sem] def l91_0 (_ : Unit) : KL := [kB 2 (.mv (.c (.int .u64 0))) [0]]
@[go_sem] def l91_1 (_ : Unit) : KL := [kA 3 (.mv (.t 0)),
  kA 4 (.cvi .u64 (.t 3)),
  kA 5 (.call (n_math_bits_Len) [(.t 4)]),
  kA 6 (.bin .shl (.c (.int .u64 1)) (.t 5)),
  kB 2 (.mv (.t 6)) [2]]
@[go_sem] def s91_2 (_ : Unit) : IR := (sQ [(kT l91_0), (kT l91_1), .ret])
@[go_sem] def l92_0 (_ : Unit) : KL := [kB 2 (.mv (.c (.int .u64 0))) [0]]
@[go_sem] def l92_1 : Nat → GOp
  | 0 => ⟨(some 3), .mv (.t 0), none⟩
  | 1 => ⟨(some 4), .nilck (.t 3), none⟩
  | 2 => ⟨(some 5), .load (.t 4) 1 false, none⟩
  | 3 => ⟨(some 6), .mv (.t 0), none⟩
  | 4 => ⟨(some 7), .nilck (.t 6), none⟩
  | 5 => ⟨(some 8), .load (.t 7) 1 false, none⟩
  | 6 => ⟨(some 9), .bin .shl (.t 8) (.c (.int .u64 13)), none⟩
  | 7 => ⟨(some 10), .bin .xor (.t 5) (.t 9), none⟩
  | 8 => ⟨(some 11), .nilck (.t 3), none⟩
  | 9 => ⟨none, .store (.t 11) 1 (.t 10), none⟩
  | _ => ⟨none, .mkmap, none⟩
@[go_sem] def l92_2 : Nat → GOp
  | 0 => ⟨(some 12), .mv (.t 0), none⟩
  | 1 => ⟨(some 13), .nilck (.t 12), none⟩
  | 2 => ⟨(some 14), .load (.t 13) 1 false, none⟩
  | 3 => ⟨(some 15), .mv (.t 0), none⟩
  | 4 => ⟨(some 16), .nilck (.t 15), none⟩
  | 5 => ⟨(some 17), .load (.t 16) 1 false, none⟩
  | 6 => ⟨(some 18), .bin .shr (.t 17) (.c (.int .u64 7)), none⟩
  | 7 => ⟨(some 19), .bin .xor (.t 14) (.t 18), none⟩
  | 8 => ⟨(some 20), .nilck (.t 12), none⟩
  | 9 => ⟨none, .store (.t 20) 1 (.t 19), none⟩
  | _ => ⟨none, .mkmap, none⟩
@[go_sem] def l92_3 : Nat → GOp
  | 0 => ⟨(some 21), .mv (.t 0), none⟩
  | 1 => ⟨(some 22), .nilck (.t 21), none⟩
  | 2 => ⟨(some 23), .load (.t 22) 1 false, none⟩
  | 3 => ⟨(some 24), .mv (.t 0), none⟩
  | 4 => ⟨(some 25), .nilck (.t 24), none⟩
  | 5 => ⟨(some 26), .load (.t 25) 1 false, none⟩
  | 6 => ⟨(some 27), .bin .shl (.t 26) (.c (.int .u64 17)), none⟩
  | 7 => ⟨(some 28), .bin .xor (.t 23) (.t 27), none⟩
  | 8 => ⟨(some 29), .nilck (.t 21), none⟩
  | 9 => ⟨none, .store (.t 29) 1 (.t 28), none⟩
  | _ => ⟨none, .mkmap, none⟩
@[go_sem] def l92_4 (_ : Unit) : KL := [kA 30 (.mv (.t 0)),
  kA 31 (.nilck (.t 30)),
  kA 32 (.load (.t 31) 1 false),
  kB 2 (.mv (.t 32)) [2]]
@[go_sem] def s92_5 (_ : Unit) : IR := (sQ [(kT l92_0), (.kd (oF l92_1 10) [(0, []), (1, []), (2, []), (3, []), (4, []), (5, []), (6, []), (7, []), (8, []), (9, [])] [0]), (.kd (oF l92_2 10) [(0, []), (1, []), (2, []), (3, []), (4, []), (5, []), (6, []), (7, []), (8, []), (9, [])] [0]), (.kd (oF l92_3 10) [(0, []), (1, []), (2, []), (3, []), (4, []), (5, []), (6, []), (7, []), (8, []), (9, [])] [0]), (kT l92_4), .ret])
@[go_sem] def l79_0 (_ : Unit) : KL := [kA 11 (.mv (.t 2)),
  kA 12 (.mv (.t 1)),
  kA 13 (.bin .sub (.t 11) (.t 12)),
  kB 6 (.mv (.t 13)) [0, 1, 6]]
@[go_sem] def l79_1 (_ : Unit) : KL := [kA 14 (.mv (.t 6)),
  kB 15 (.bin .geq (.t 14) (.c (.int .i64 8))) [0, 1, 6, 15]]
@[go_sem] def l79_2 (_ : Unit) : KL := [kA 16 (.mv (.t 6)),
  kA 17 (.cvi .u64 (.t 16)),
  kA 7 (.alloc [(.int .u64 0)]),
  (⟨none, .store (.t 7) 1 (.t 17), none⟩, (some [0, 1, 6, 7]))]
@[go_sem] def l79_3 (_ : Unit) : KL := [kA 18 (.mv (.t 6)),
  kA 19 (.call (n_slices_nextPowerOfTwo) [(.t 18)]),
  kB 8 (.mv (.t 19)) [0, 1, 6, 7, 8]]
@[go_sem] def l79_4 (_ : Unit) : KL := [kA 20 (.mv (.t 1)),
  kA 21 (.mv (.t 6)),
  kA 22 (.bin .quo (.t 21) (.c (.int .i64 4))),
  kA 23 (.bin .mul (.t 22) (.c (.int .i64 2))),
  kB 24 (.bin .add (.t 20) (.t 23)) [0, 1, 6, 7, 8, 24],
  kA 25 (.bin .sub (.t 24) (cI 1)),
  kB 9 (.mv (.t 25)) [0, 1, 6, 7, 8, 9]]
@[go_sem] def l79_5 (_ : Unit) : KL := [kA 26 (.mv (.t 9)),
  kA 27 (.mv (.t 1)),
  kA 28 (.mv (.t 6)),
  kA 29 (.bin .quo (.t 28) (.c (.int .i64 4))),
  kB 30 (.bin .mul (.t 29) (.c (.int .i64 2))) [0, 1, 6, 7, 8, 9, 26, 27, 30],
  kA 31 (.bin .add (.t 27) (.t 30)),
  kA 32 (.bin .add (.t 31) (cI 1)),
  kB 33 (.bin .leq (.t 26) (.t 32)) [0, 1, 6, 7, 8, 9, 33]]
@[go_sem] def s79_6 (_ : Unit) : IR := (sQ [(kT l79_5), (.cond (.t 33) .skip (.exit 0))])
@[go_sem] def l79_7 (_ : Unit) : KL := [kA 36 (.call (n_slices_xorshift_Next) [(.t 7)]),
  kA 37 (.mv (.t 8)),
  kA 38 (.bin .sub (.t 37) (.c (.int .u64 1))),
  kA 39 (.bin .and (.t 36) (.t 38)),
  kB 40 (.cvi .i64 (.t 39)) [0, 1, 6, 7, 8, 9, 40],
  kB 10 (.mv (.t 40)) [0, 1, 6, 7, 8, 9, 10]]
@[go_sem] def l79_8 (_ : Unit) : KL := [kA 41 (.mv (.t 10)),
  kA 42 (.mv (.t 6)),
  kB 43 (.bin .geq (.t 41) (.t 42)) [0, 1, 6, 7, 8, 9, 10, 43]]
@[go_sem] def l79_9 (_ : Unit) : KL := [kA 44 (.mv (.t 10)),
  kA 45 (.mv (.t 6)),
  kA 46 (.bin .sub (.t 44) (.t 45)),
  kB 10 (.mv (.t 46)) [0, 1, 6, 7, 8, 9, 10]]
@[go_sem] def s79_10 (_ : Unit) : IR := (sQ [(kT l79_8), (.cond (.t 43) (kT l79_9) .skip)])
@[go_sem] def l79_11 : Nat → GOp
  | 0 => ⟨(some 47), .mv (.t 0), none⟩
  | 1 => ⟨(some 48), .mv (.t 9), none⟩
  | 2 => ⟨(some 49), .mv (.t 0), none⟩
  | 3 => ⟨(some 50), .mv (.t 1), none⟩
  | 4 => ⟨(some 51), .mv (.t 10), none⟩
  | 5 => ⟨(some 52), .bin .add (.t 50) (.t 51), none⟩
  | 6 => ⟨(some 53), .mv (.t 0), none⟩
  | 7 => ⟨(some 54), .mv (.t 1), none⟩
  | 8 => ⟨(some 55), .mv (.t 10), none⟩
  | 9 => ⟨(some 56), .bin .add (.t 54) (.t 55), none⟩
  | 10 => ⟨(some 57), .iaddr (.t 53) (.t 56) 1, none⟩
  | 11 => ⟨(some 58), .load (.t 57) 1 false, none⟩
  | 12 => ⟨(some 59), .mv (.t 0), none⟩
  | 13 => ⟨(some 60), .mv (.t 9), none⟩
  | 14 => ⟨(some 61), .iaddr (.t 59) (.t 60) 1, none⟩
  | 15 => ⟨(some 62), .load (.t 61) 1 false, none⟩
  | 16 => ⟨(some 63), .iaddr (.t 47) (.t 48) 1, none⟩
  | 17 => ⟨none, .store (.t 63) 1 (.t 58), none⟩
  | 18 => ⟨(some 64), .iaddr (.t 49) (.t 52) 1, none⟩
  | 19 => ⟨none, .store (.t 64) 1 (.t 62), none⟩
  | _ => ⟨none, .mkmap, none⟩
@[go_sem] def s79_12 (_ : Unit) : IR := (sQ [(kT l79_7), (tH s79_10), (.kd (oF l79_11 20) [(0, []), (1, []), (2, []), (3, []), (4, []), (5, []), (6, []), (7, []), (8, []), (9, []), (10, []), (11, []), (12, []), (13, []), (14, []), (15, []), (16, []), (17, []), (18, []), (19, [])] [0, 1, 6, 7, 8, 9])])
@[go_sem] def s79_13 (_ : Unit) : IR := (.block 1 (tH s79_12))
@[go_sem] def l79_14 (_ : Unit) : KL := [kA 34 (.mv (.t 9)),
  kA 35 (.bin .add (.t 34) (cI 1)),
  kB 9 (.mv (.t 35)) [0, 1, 6, 7, 8, 9]]
@[go_sem] def s79_15 (_ : Unit) : IR := (sQ [(tH s79_6), (tH s79_13), (kT l79_14)])
@[go_sem] def s79_16 (_ : Unit) : IR := (.loop (tH s79_15))
@[go_sem] def s79_17 (_ : Unit) : IR := (.block 0 (tH s79_16))
@[go_sem] def s79_18 (_ : Unit) : IR := (sQ [(kT l79_2), (kT l79_3), (kT l79_4), (tH s79_17)])
@[go_sem] def s79_19 (_ : Unit) : IR := (sQ [(kT l79_0), (kT l79_1), (.cond (.t 15) (tH s79_18) .skip)])
@[go_sem] def l100_0 (_ : Unit) : KL := [kA 8 (.mv (cI 0)),
  kB 9 (.mv (cI 0)) [0, 1, 2, 3]]
@[go_sem] def l100_1 : Nat → GOp
  | 0 => ⟨(some 10), .mv (.t 0), none⟩
  | 1 => ⟨(some 11), .mv (.t 2), none⟩
  | 2 => ⟨(some 12), .iaddr (.t 10) (.t 11) 1, none⟩
  | 3 => ⟨(some 13), .load (.t 12) 1 false, none⟩
  | 4 => ⟨(some 14), .mv (.t 0), none⟩
  | 5 => ⟨(some 15), .mv (.t 1), none⟩
  | 6 => ⟨(some 16), .iaddr (.t 14) (.t 15) 1, none⟩
  | 7 => ⟨(some 17), .load (.t 16) 1 false, none⟩
  | 8 => ⟨(some 18), .call (n_cmp_Less_int) [(.t 13), (.t 17)], none⟩
  | _ => ⟨none, .mkmap, none⟩
@[go_sem] def l100_2 (_ : Unit) : KL := [kA 19 (.mv (.t 3)),
  kA 20 (.nilck (.t 19)),
  kA 21 (.load (.t 20) 1 false),
  kA 22 (.bin .add (.t 21) (cI 1)),
  kB 23 (.nilck (.t 19)) [1, 2, 22, 23],
  (⟨none, .store (.t 23) 1 (.t 22), none⟩, (some [1, 2]))]
@[go_sem] def l100_3 (_ : Unit) : KL := [kA 24 (.mv (.t 2)),
  kA 25 (.mv (.t 1)),
  kA 8 (.mv (.t 24)),
  kB 9 (.mv (.t 25)) [8, 9]]
@[go_sem] def s100_4 (_ : Unit) : IR := (sQ [(kT l100_2), (kT l100_3), .ret])
@[go_sem] def s100_5 (_ : Unit) : IR := (sQ [(.kd (oF l100_1 9) [(0, []), (1, []), (2, []), (3, []), (4, []), (5, []), (6, []), (7, []), (8, [])] [1, 2, 3, 18]), (.cond (.t 18) (tH s100_4) .skip)])
@[go_sem] def l100_6 (_ : Unit) : KL := [kA 26 (.mv (.t 1)),
  kA 27 (.mv (.t 2)),
  kA 8 (.mv (.t 26)),
  kB 9 (.mv (.t 27)) [8, 9]]
@[go_sem] def s100_7 (_ : Unit) : IR := (sQ [(kT l100_0), (tH s100_5), (kT l100_6), .ret])
@[go_sem] def l94_0 (_ : Unit) : KL := [kB 10 (.mv (cI 0)) [0, 1, 2, 3, 4]]
@[go_sem] def l94_1 (_ : Unit) : KL := [kA 12 (.mv (.t 0)),
  kA 13 (.mv (.t 1)),
  kA 14 (.mv (.t 2)),
  kA 15 (.mv (.t 4)),
  kB 16 (.call (n_slices_order2Ordered_int) [(.t 12), (.t 13), (.t 14), (.t 15)]) [0, 3, 4, 16],
  kA 11 (.mv (.t 16)),
  kA 17 (.ext (.t 11) 0),
  kA 18 (.ext (.t 11) 1),
  kA 1 (.mv (.t 17)),
  kB 2 (.mv (.t 18)) [0, 1, 2, 3, 4]]
@[go_sem] def l94_2 (_ : Unit) : KL := [kA 20 (.mv (.t 0)),
  kA 21 (.mv (.t 2)),
  kA 22 (.mv (.t 3)),
  kA 23 (.mv (.t 4)),
  kB 24 (.call (n_slices_order2Ordered_int) [(.t 20), (.t 21), (.t 22), (.t 23)]) [0, 1, 4, 24],
  kA 19 (.mv (.t 24)),
  kA 25 (.ext (.t 19) 0),
  kA 26 (.ext (.t 19) 1),
  kA 2 (.mv (.t 25)),
  kB 3 (.mv (.t 26)) [0, 1, 2, 4]]
@[go_sem] def l94_3 (_ : Unit) : KL := [kA 28 (.mv (.t 0)),
  kA 29 (.mv (.t 1)),
  kA 30 (.mv (.t 2)),
  kA 31 (.mv (.t 4)),
  kB 32 (.call (n_slices_order2Ordered_int) [(.t 28), (.t 29), (.t 30), (.t 31)]) [32],
  kA 27 (.mv (.t 32)),
  kA 33 (.ext (.t 27) 0),
  kA 34 (.ext (.t 27) 1),
  kA 1 (.mv (.t 33)),
  kB 2 (.mv (.t 34)) [2]]
@[go_sem] def l94_4 (_ : Unit) : KL := [kA 35 (.mv (.t 2)),
  kB 10 (.mv (.t 35)) [10]]
@[go_sem] def s94_5 (_ : Unit) : IR := (sQ [(kT l94_0), (kT l94_1), (kT l94_2), (kT l94_3), (kT l94_4), .ret])
@[go_sem] def l93_0 (_ : Unit) : KL := [kB 6 (.mv (cI 0)) [0, 1, 2]]
@[go_sem] def l93_1 (_ : Unit) : KL := [kA 7 (.mv (.t 0)),
  kA 8 (.mv (.t 1)),
  kA 9 (.bin .sub (.t 8) (cI 1)),
  kA 10 (.mv (.t 1)),
  kB 11 (.mv (.t 1)) [2, 7, 9, 10, 11],
  kA 12 (.bin .add (.t 11) (cI 1)),
  kA 13 (.mv (.t 2)),
  kA 14 (.call (n_slices_medianOrdered_int) [(.t 7), (.t 9), (.t 10), (.t 12), (.t 13)]),
  kB 6 (.mv (.t 14)) [6]]
@[go_sem] def s93_2 (_ : Unit) : IR := (sQ [(kT l93_0), (kT l93_1), .ret])
@[go_sem] def l80_0 (_ : Unit) : KL := [kA 6 (.mv (cI 0)),
  kB 7 (.mv (cI 0)) [0, 1, 2]]
@[go_sem] def l80_1 (_ : Unit) : KL := [kA 13 (.mv (.t 2)),
  kA 14 (.mv (.t 1)),
  kA 15 (.bin .sub (.t 13) (.t 14)),
  kB 8 (.mv (.t 15)) [0, 1, 8]]
@[go_sem] def l80_2 (_ : Unit) : KL := [kB 9 (.alloc [(.int .i64 0)]) [0, 1, 8, 9]]
@[go_sem] def l80_3 (_ : Unit) : KL := [kA 16 (.mv (.t 1)),
  kA 17 (.mv (.t 8)),
  kA 18 (.bin .quo (.t 17) (.c (.int .i64 4))),
  kA 19 (.bin .mul (.t 18) (cI 1)),
  kB 20 (.bin .add (.t 16) (.t 19)) [0, 1, 8, 9, 20],
  kB 10 (.mv (.t 20)) [0, 1, 8, 9, 10]]
@[go_sem] def l80_4 (_ : Unit) : KL := [kA 21 (.mv (.t 1)),
  kA 22 (.mv (.t 8)),
  kA 23 (.bin .quo (.t 22) (.c (.int .i64 4))),
  kA 24 (.bin .mul (.t 23) (.c (.int .i64 2))),
  kB 25 (.bin .add (.t 21) (.t 24)) [0, 1, 8, 9, 10, 25],
  kB 11 (.mv (.t 25)) [0, 1, 8, 9, 10, 11]]
@[go_sem] def l80_5 (_ : Unit) : KL := [kA 26 (.mv (.t 1)),
  kA 27 (.mv (.t 8)),
  kA 28 (.bin .quo (.t 27) (.c (.int .i64 4))),
  kA 29 (.bin .mul (.t 28) (.c (.int .i64 3))),
  kB 30 (.bin .add (.t 26) (.t 29)) [0, 8, 9, 10, 11, 30],
  kB 12 (.mv (.t 30)) [0, 8, 9, 10, 11, 12]]
@[go_sem] def l80_6 (_ : Unit) : KL := [kA 31 (.mv (.t 8)),
  kB 32 (.bin .geq (.t 31) (.c (.int .i64 8))) [0, 8, 9, 10, 11, 12, 32]]
@[go_sem] def l80_7 (_ : Unit) : KL := [kA 33 (.mv (.t 8)),
  kB 34 (.bin .geq (.t 33) (.c (.int .i64 50))) [0, 9, 10, 11, 12, 34]]
@[go_sem] def l80_8 (_ : Unit) : KL := [kA 35 (.mv (.t 0)),
  kA 36 (.mv (.t 10)),
  kA 37 (.call (n_slices_medianAdjacentOrdered_int) [(.t 35), (.t 36), (.t 9)]),
  kB 10 (.mv (.t 37)) [0, 9, 10, 11, 12]]
@[go_sem] def l80_9 (_ : Unit) : KL := [kA 38 (.mv (.t 0)),
  kA 39 (.mv (.t 11)),
  kA 40 (.call (n_slices_medianAdjacentOrdered_int) [(.t 38), (.t 39), (.t 9)]),
  kB 11 (.mv (.t 40)) [0, 9, 10, 11, 12]]
@[go_sem] def l80_10 (_ : Unit) : KL := [kA 41 (.mv (.t 0)),
  kA 42 (.mv (.t 12)),
  kA 43 (.call (n_slices_medianAdjacentOrdered_int) [(.t 41), (.t 42), (.t 9)]),
  kB 12 (.mv (.t 43)) [0, 9, 10, 11, 12]]
@[go_sem] def s80_11 (_ : Unit) : IR := (sQ [(kT l80_8), (kT l80_9), (kT l80_10)])
@[go_sem] def s80_12 (_ : Unit) : IR := (sQ [(kT l80_7), (.cond (.t 34) (tH s80_11) .skip)])
@[go_sem] def l80_13 (_ : Unit) : KL := [kA 44 (.mv (.t 0)),
  kA 45 (.mv (.t 10)),
  kA 46 (.mv (.t 11)),
  kA 47 (.mv (.t 12)),
  kB 48 (.call (n_slices_medianOrdered_int) [(.t 44), (.t 45), (.t 46), (.t 47), (.t 9)]) [9, 48],
  kB 11 (.mv (.t 48)) [9, 11]]
@[go_sem] def s80_14 (_ : Unit) : IR := (sQ [(tH s80_12), (kT l80_13)])
@[go_sem] def s80_15 (_ : Unit) : IR := (sQ [(kT l80_6), (.cond (.t 32) (tH s80_14) .skip)])
@[go_sem] def l80_16 (_ : Unit) : KL := [kB 49 (.load (.t 9) 1 false) [11, 49]]
@[go_sem] def l80_17 (_ : Unit) : KL := [kA 52 (.bin .eql (.t 49) (cI 0)),
  kB 51 (.mv (.t 52)) [11, 49, 51]]
@[go_sem] def l80_18 (_ : Unit) : KL := [kA 53 (.mv (.t 11)),
  kA 6 (.mv (.t 53)),
  kB 7 (.mv (cI 1)) [6, 7]]
@[go_sem] def s80_19 (_ : Unit) : IR := (sQ [(kT l80_18), .ret])
@[go_sem] def l80_20 (_ : Unit) : KL := [kA 55 (.bin .eql (.t 49) (.c (.int .i64 12))),
  kB 54 (.mv (.t 55)) [11, 54]]
@[go_sem] def l80_21 (_ : Unit) : KL := [kA 56 (.mv (.t 11)),
  kA 6 (.mv (.t 56)),
  kB 7 (.mv (.c (.int .i64 2))) [6, 7]]
@[go_sem] def s80_22 (_ : Unit) : IR := (sQ [(kT l80_21), .ret])
@[go_sem] def l80_23 (_ : Unit) : KL := [kA 50 (.mv (.t 11)),
  kA 6 (.mv (.t 50)),
  kB 7 (.mv (cI 0)) [6, 7]]
@[go_sem] def s80_24 (_ : Unit) : IR := (sQ [(kT l80_23), .ret])
@[go_sem] def s80_25 (_ : Unit) : IR := (sQ [(kT l80_20), (.cond (.t 54) (tH s80_22) (tH s80_24))])
@[go_sem] def s80_26 (_ : Unit) : IR := (sQ [(kT l80_17), (.cond (.t 51) (tH s80_19) (tH s80_25))])
@[go_sem] def s80_27 (_ : Unit) : IR := (.block 0 (tH s80_26))
@[go_sem] def s80_28 (_ : Unit) : IR := (sQ [(kT l80_0), (kT l80_1), (kT l80_2), (kT l80_3), (kT l80_4), (kT l80_5), (tH s80_15), (kT l80_16), (tH s80_27)])
@[go_sem] def l81_0 (_ : Unit) : KL := [kA 8 (.mv (.t 1)),
  kB 6 (.mv (.t 8)) [0, 2, 6]]
@[go_sem] def l81_1 (_ : Unit) : KL := [kA 9 (.mv (.t 2)),
  kA 10 (.bin .sub (.t 9) (cI 1)),
  kB 7 (.mv (.t 10)) [0, 6, 7]]
@[go_sem] def l81_2 (_ : Unit) : KL := [kA 11 (.mv (.t 6)),
  kA 12 (.mv (.t 7)),
  kB 13 (.bin .lss (.t 11) (.t 12)) [0, 6, 7, 13]]
@[go_sem] def s81_3 (_ : Unit) : IR := (sQ [(kT l81_2), (.cond (.t 13) .skip (.exit 0))])
@[go_sem] def l81_4 : Nat → GOp
  | 0 => ⟨(some 14), .mv (.t 0), none⟩
  | 1 => ⟨(some 15), .mv (.t 6), none⟩
  | 2 => ⟨(some 16), .mv (.t 0), none⟩
  | 3 => ⟨(some 17), .mv (.t 7), none⟩
  | 4 => ⟨(some 18), .mv (.t 0), none⟩
  | 5 => ⟨(some 19), .mv (.t 7), none⟩
  | 6 => ⟨(some 20), .iaddr (.t 18) (.t 19) 1, none⟩
  | 7 => ⟨(some 21), .load (.t 20) 1 false, none⟩
  | 8 => ⟨(some 22), .mv (.t 0), none⟩
  | 9 => ⟨(some 23), .mv (.t 6), none⟩
  | 10 => ⟨(some 24), .iaddr (.t 22) (.t 23) 1, none⟩
  | 11 => ⟨(some 25), .load (.t 24) 1 false, none⟩
  | 12 => ⟨(some 26), .iaddr (.t 14) (.t 15) 1, none⟩
  | 13 => ⟨none, .store (.t 26) 1 (.t 21), none⟩
  | 14 => ⟨(some 27), .iaddr (.t 16) (.t 17) 1, none⟩
  | 15 => ⟨none, .store (.t 27) 1 (.t 25), none⟩
  | _ => ⟨none, .mkmap, none⟩
@[go_sem] def l81_5 (_ : Unit) : KL := [kA 28 (.mv (.t 6)),
  kA 29 (.bin .add (.t 28) (cI 1)),
  kB 6 (.mv (.t 29)) [0, 6, 7]]
@[go_sem] def l81_6 (_ : Unit) : KL := [kA 30 (.mv (.t 7)),
  kA 31 (.bin .sub (.t 30) (cI 1)),
  kB 7 (.mv (.t 31)) [0, 6, 7]]
@[go_sem] def s81_7 (_ : Unit) : IR := (sQ [(.kd (oF l81_4 16) [(0, []), (1, []), (2, []), (3, []), (4, []), (5, []), (6, []), (7, []), (8, []), (9, []), (10, []), (11, []), (12, []), (13, []), (14, []), (15, [])] [0, 6, 7]), (kT l81_5), (kT l81_6)])
@[go_sem] def s81_8 (_ : Unit) : IR := (.block 1 (tH s81_7))
@[go_sem] def s81_9 (_ : Unit) : IR := (sQ [(tH s81_3), (tH s81_8)])
@[go_sem] def s81_10 (_ : Unit) : IR := (.loop (tH s81_9))
@[go_sem] def s81_11 (_ : Unit) : IR := (.block 0 (tH s81_10))
@[go_sem] def s81_12 (_ : Unit) : IR := (sQ [(kT l81_0), (kT l81_1), (tH s81_11)])
@[go_sem] def l82_0 (_ : Unit) : KL := [kB 6 (.mv (.c (.bool false))) [0, 1, 2]]
@[go_sem] def l82_1 (_ : Unit) : KL := [kA 11 (.mv (.t 1)),
  kA 12 (.bin .add (.t 11) (cI 1)),
  kB 7 (.mv (.t 12)) [0, 1, 2, 7]]
@[go_sem] def l82_2 (_ : Unit) : KL := [kB 8 (.mv (cI 0)) [0, 1, 2, 7, 8]]
@[go_sem] def l82_3 (_ : Unit) : KL := [kA 13 (.mv (.t 8)),
  kB 14 (.bin .lss (.t 13) (.c (.int .i64 5))) [0, 1, 2, 7, 8, 14]]
@[go_sem] def s82_4 (_ : Unit) : IR := (sQ [(kT l82_3), (.cond (.t 14) .skip (.exit 0))])
@[go_sem] def l82_5 : Nat → GOp
  | 0 => ⟨(some 17), .mv (.t 7), none⟩
  | 1 => ⟨(some 18), .mv (.t 2), none⟩
  | 2 => ⟨(some 19), .bin .lss (.t 17) (.t 18), none⟩
  | 3 => ⟨(some 20), .mv (.t 19), none⟩
  | 4 => ⟨(some 21), .mv (.t 0), (some (20, true))⟩
  | 5 => ⟨(some 22), .mv (.t 7), (some (20, true))⟩
  | 6 => ⟨(some 23), .iaddr (.t 21) (.t 22) 1, (some (20, true))⟩
  | 7 => ⟨(some 24), .load (.t 23) 1 false, (some (20, true))⟩
  | 8 => ⟨(some 25), .mv (.t 0), (some (20, true))⟩
  | 9 => ⟨(some 26), .mv (.t 7), (some (20, true))⟩
  | 10 => ⟨(some 27), .bin .sub (.t 26) (cI 1), (some (20, true))⟩
  | 11 => ⟨(some 28), .iaddr (.t 25) (.t 27) 1, (some (20, true))⟩
  | 12 => ⟨(some 29), .load (.t 28) 1 false, (some (20, true))⟩
  | 13 => ⟨(some 30), .call (n_cmp_Less_int) [(.t 24), (.t 29)], (some (20, true))⟩
  | 14 => ⟨(some 31), .un .not (.t 30), (some (20, true))⟩
  | 15 => ⟨(some 32), .pick (.t 20) (.t 31) (.c (.bool false)), none⟩
  | _ => ⟨none, .mkmap, none⟩
@[go_sem] def s82_6 (_ : Unit) : IR := (sQ [(.kd (oF l82_5 16) [(0, []), (1, []), (2, []), (3, []), (4, []), (5, []), (6, []), (7, []), (8, []), (9, []), (10, []), (11, []), (12, []), (13, []), (14, []), (15, [])] [0, 1, 2, 7, 8, 32]), (.cond (.t 32) .skip (.exit 2))])
@[go_sem] def l82_7 (_ : Unit) : KL := [kA 33 (.mv (.t 7)),
  kA 34 (.bin .add (.t 33) (cI 1)),
  kB 7 (.mv (.t 34)) [0, 1, 2, 7, 8]]
@[go_sem] def s82_8 (_ : Unit) : IR := (.block 3 (kT l82_7))
@[go_sem] def s82_9 (_ : Unit) : IR := (sQ [(tH s82_6), (tH s82_8)])
@[go_sem] def s82_10 (_ : Unit) : IR := (.loop (tH s82_9))
@[go_sem] def s82_11 (_ : Unit) : IR := (.block 2 (tH s82_10))
@[go_sem] def l82_12 (_ : Unit) : KL := [kA 35 (.mv (.t 7)),
  kA 36 (.mv (.t 2)),
  kB 37 (.bin .eql (.t 35) (.t 36)) [0, 1, 2, 7, 8, 37]]
@[go_sem] def l82_13 (_ : Unit) : KL := [kB 6 (.mv (.c (.bool true))) [6]]
@[go_sem] def s82_14 (_ : Unit) : IR := (sQ [(kT l82_13), .ret])
@[go_sem] def s82_15 (_ : Unit) : IR := (sQ [(kT l82_12), (.cond (.t 37) (tH s82_14) .skip)])
@[go_sem] def l82_16 (_ : Unit) : KL := [kA 38 (.mv (.t 2)),
  kA 39 (.mv (.t 1)),
  kA 40 (.bin .sub (.t 38) (.t 39)),
  kB 41 (.bin .lss (.t 40) (.c (.int .i64 50))) [0, 1, 2, 7, 8, 41]]
@[go_sem] def l82_17 (_ : Unit) : KL := [kB 6 (.mv (.c (.bool false))) [6]]
@[go_sem] def s82_18 (_ : Unit) : IR := (sQ [(kT l82_17), .ret])
@[go_sem] def s82_19 (_ : Unit) : IR := (sQ [(kT l82_16), (.cond (.t 41) (tH s82_18) .skip)])
@[go_sem] def l82_20 : Nat → GOp
  | 0 => ⟨(some 42), .mv (.t 0), none⟩
  | 1 => ⟨(some 43), .mv (.t 7), none⟩
  | 2 => ⟨(some 44), .mv (.t 0), none⟩
  | 3 => ⟨(some 45), .mv (.t 7), none⟩
  | 4 => ⟨(some 46), .bin .sub (.t 45) (cI 1), none⟩
  | 5 => ⟨(some 47), .mv (.t 0), none⟩
  | 6 => ⟨(some 48), .mv (.t 7), none⟩
  | 7 => ⟨(some 49), .bin .sub (.t 48) (cI 1), none⟩
  | 8 => ⟨(some 50), .iaddr (.t 47) (.t 49) 1, none⟩
  | 9 => ⟨(some 51), .load (.t 50) 1 false, none⟩
  | 10 => ⟨(some 52), .mv (.t 0), none⟩
  | 11 => ⟨(some 53), .mv (.t 7), none⟩
  | 12 => ⟨(some 54), .iaddr (.t 52) (.t 53) 1, none⟩
  | 13 => ⟨(some 55), .load (.t 54) 1 false, none⟩
  | 14 => ⟨(some 56), .iaddr (.t 42) (.t 43) 1, none⟩
  | 15 => ⟨none, .store (.t 56) 1 (.t 51), none⟩
  | 16 => ⟨(some 57), .iaddr (.t 44) (.t 46) 1, none⟩
  | 17 => ⟨none, .store (.t 57) 1 (.t 55), none⟩
  | _ => ⟨none, .mkmap, none⟩
@[go_sem] def l82_21 (_ : Unit) : KL := [kA 58 (.mv (.t 7)),
  kA 59 (.mv (.t 1)),
  kA 60 (.bin .sub (.t 58) (.t 59)),
  kB 61 (.bin .geq (.t 60) (.c (.int .i64 2))) [0, 1, 2, 7, 8, 61]]
@[go_sem] def l82_22 (_ : Unit) : KL := [kA 62 (.mv (.t 7)),
  kA 63 (.bin .sub (.t 62) (cI 1)),
  kB 9 (.mv (.t 63)) [0, 1, 2, 7, 8, 9]]
@[go_sem] def l82_23 (_ : Unit) : KL := [kA 64 (.mv (.t 9)),
  kB 65 (.bin .geq (.t 64) (cI 1)) [0, 1, 2, 7, 8, 9, 65]]
@[go_sem] def s82_24 (_ : Unit) : IR := (sQ [(kT l82_23), (.cond (.t 65) .skip (.exit 4))])
@[go_sem] def l82_25 : Nat → GOp
  | 0 => ⟨(some 68), .mv (.t 0), none⟩
  | 1 => ⟨(some 69), .mv (.t 9), none⟩
  | 2 => ⟨(some 70), .iaddr (.t 68) (.t 69) 1, none⟩
  | 3 => ⟨(some 71), .load (.t 70) 1 false, none⟩
  | 4 => ⟨(some 72), .mv (.t 0), none⟩
  | 5 => ⟨(some 73), .mv (.t 9), none⟩
  | 6 => ⟨(some 74), .bin .sub (.t 73) (cI 1), none⟩
  | 7 => ⟨(some 75), .iaddr (.t 72) (.t 74) 1, none⟩
  | 8 => ⟨(some 76), .load (.t 75) 1 false, none⟩
  | 9 => ⟨(some 77), .call (n_cmp_Less_int) [(.t 71), (.t 76)], none⟩
  | 10 => ⟨(some 78), .un .not (.t 77), none⟩
  | _ => ⟨none, .mkmap, none⟩
@[go_sem] def s82_26 (_ : Unit) : IR := (sQ [(.kd (oF l82_25 11) [(0, []), (1, []), (2, []), (3, []), (4, []), (5, []), (6, []), (7, []), (8, []), (9, []), (10, [])] [0, 1, 2, 7, 8, 9, 78]), (.cond (.t 78) (.exit 4) .skip)])
@[go_sem] def l82_27 : Nat → GOp
  | 0 => ⟨(some 79), .mv (.t 0), none⟩
  | 1 => ⟨(some 80), .mv (.t 9), none⟩
  | 2 => ⟨(some 81), .mv (.t 0), none⟩
  | 3 => ⟨(some 82), .mv (.t 9), none⟩
  | 4 => ⟨(some 83), .bin .sub (.t 82) (cI 1), none⟩
  | 5 => ⟨(some 84), .mv (.t 0), none⟩
  | 6 => ⟨(some 85), .mv (.t 9), none⟩
  | 7 => ⟨(some 86), .bin .sub (.t 85) (cI 1), none⟩
  | 8 => ⟨(some 87), .iaddr (.t 84) (.t 86) 1, none⟩
  | 9 => ⟨(some 88), .load (.t 87) 1 false, none⟩
  | 10 => ⟨(some 89), .mv (.t 0), none⟩
  | 11 => ⟨(some 90), .mv (.t 9), none⟩
  | 12 => ⟨(some 91), .iaddr (.t 89) (.t 90) 1, none⟩
  | 13 => ⟨(some 92), .load (.t 91) 1 false, none⟩
  | 14 => ⟨(some 93), .iaddr (.t 79) (.t 80) 1, none⟩
  | 15 => ⟨none, .store (.t 93) 1 (.t 88), none⟩
  | 16 => ⟨(some 94), .iaddr (.t 81) (.t 83) 1, none⟩
  | 17 => ⟨none, .store (.t 94) 1 (.t 92), none⟩
  | _ => ⟨none, .mkmap, none⟩
@[go_sem] def s82_28 (_ : Unit) : IR := (sQ [(tH s82_26), (.kd (oF l82_27 18) [(0, []), (1, []), (2, []), (3, []), (4, []), (5, []), (6, []), (7, []), (8, []), (9, []), (10, []), (11, []), (12, []), (13, []), (14, []), (15, []), (16, []), (17, [])] [0, 1, 2, 7, 8, 9])])
@[go_sem] def s82_29 (_ : Unit) : IR := (.block 5 (tH s82_28))
@[go_sem] def l82_30 (_ : Unit) : KL := [kA 66 (.mv (.t 9)),
  kA 67 (.bin .sub (.t 66) (cI 1)),
  kB 9 (.mv (.t 67)) [0, 1, 2, 7, 8, 9]]
@[go_sem] def s82_31 (_ : Unit) : IR := (sQ [(tH s82_24), (tH s82_29), (kT l82_30)])
@[go_sem] def s82_32 (_ : Unit) : IR := (.loop (tH s82_31))
@[go_sem] def s82_33 (_ : Unit) : IR := (.block 4 (tH s82_32))
@[go_sem] def s82_34 (_ : Unit) : IR := (sQ [(kT l82_22), (tH s82_33)])
@[go_sem] def s82_35 (_ : Unit) : IR := (sQ [(kT l82_21), (.cond (.t 61) (tH s82_34) .skip)])
@[go_sem] def l82_36 (_ : Unit) : KL := [kA 95 (.mv (.t 2)),
  kA 96 (.mv (.t 7)),
  kA 97 (.bin .sub (.t 95) (.t 96)),
  kB 98 (.bin .geq (.t 97) (.c (.int .i64 2))) [0, 1, 2, 7, 8, 98]]
@[go_sem] def l82_37 (_ : Unit) : KL := [kA 99 (.mv (.t 7)),
  kA 100 (.bin .add (.t 99) (cI 1)),
  kB 10 (.mv (.t 100)) [0, 1, 2, 7, 8, 10]]
@[go_sem] def l82_38 (_ : Unit) : KL := [kA 101 (.mv (.t 10)),
  kA 102 (.mv (.t 2)),
  kB 103 (.bin .lss (.t 101) (.t 102)) [0, 1, 2, 7, 8, 10, 103]]
@[go_sem] def s82_39 (_ : Unit) : IR := (sQ [(kT l82_38), (.cond (.t 103) .skip (.exit 6))])
@[go_sem] def l82_40 : Nat → GOp
  | 0 => ⟨(some 106), .mv (.t 0), none⟩
  | 1 => ⟨(some 107), .mv (.t 10), none⟩
  | 2 => ⟨(some 108), .iaddr (.t 106) (.t 107) 1, none⟩
  | 3 => ⟨(some 109), .load (.t 108) 1 false, none⟩
  | 4 => ⟨(some 110), .mv (.t 0), none⟩
  | 5 => ⟨(some 111), .mv (.t 10), none⟩
  | 6 => ⟨(some 112), .bin .sub (.t 111) (cI 1), none⟩
  | 7 => ⟨(some 113), .iaddr (.t 110) (.t 112) 1, none⟩
  | 8 => ⟨(some 114), .load (.t 113) 1 false, none⟩
  | 9 => ⟨(some 115), .call (n_cmp_Less_int) [(.t 109), (.t 114)], none⟩
  | 10 => ⟨(some 116), .un .not (.t 115), none⟩
  | _ => ⟨none, .mkmap, none⟩
@[go_sem] def s82_41 (_ : Unit) : IR := (sQ [(.kd (oF l82_40 11) [(0, []), (1, []), (2, []), (3, []), (4, []), (5, []), (6, []), (7, []), (8, []), (9, []), (10, [])] [0, 1, 2, 7, 8, 10, 116]), (.cond (.t 116) (.exit 6) .skip)])
@[go_sem] def l82_42 : Nat → GOp
  | 0 => ⟨(some 117), .mv (.t 0), none⟩
  | 1 => ⟨(some 118), .mv (.t 10), none⟩
  | 2 => ⟨(some 119), .mv (.t 0), none⟩
  | 3 => ⟨(some 120), .mv (.t 10), none⟩
  | 4 => ⟨(some 121), .bin .sub (.t 120) (cI 1), none⟩
  | 5 => ⟨(some 122), .mv (.t 0), none⟩
  | 6 => ⟨(some 123), .mv (.t 10), none⟩
  | 7 => ⟨(some 124), .bin .sub (.t 123) (cI 1), none⟩
  | 8 => ⟨(some 125), .iaddr (.t 122) (.t 124) 1, none⟩
  | 9 => ⟨(some 126), .load (.t 125) 1 false, none⟩
  | 10 => ⟨(some 127), .mv (.t 0), none⟩
  | 11 => ⟨(some 128), .mv (.t 10), none⟩
  | 12 => ⟨(some 129), .iaddr (.t 127) (.t 128) 1, none⟩
  | 13 => ⟨(some 130), .load (.t 129) 1 false, none⟩
  | 14 => ⟨(some 131), .iaddr (.t 117) (.t 118) 1, none⟩
  | 15 => ⟨none, .store (.t 131) 1 (.t 126), none⟩
  | 16 => ⟨(some 132), .iaddr (.t 119) (.t 121) 1, none⟩
  | 17 => ⟨none, .store (.t 132) 1 (.t 130), none⟩
  | _ => ⟨none, .mkmap, none⟩
@[go_sem] def s82_43 (_ : Unit) : IR := (sQ [(tH s82_41), (.kd (oF l82_42 18) [(0, []), (1, []), (2, []), (3, []), (4, []), (5, []), (6, []), (7, []), (8, []), (9, []), (10, []), (11, []), (12, []), (13, []), (14, []), (15, []), (16, []), (17, [])] [0, 1, 2, 7, 8, 10])])
@[go_sem] def s82_44 (_ : Unit) : IR := (.block 7 (tH s82_43))
@[go_sem] def l82_45 (_ : Unit) : KL := [kA 104 (.mv (.t 10)),
  kA 105 (.bin .add (.t 104) (cI 1)),
  kB 10 (.mv (.t 105)) [0, 1, 2, 7, 8, 10]]
@[go_sem] def s82_46 (_ : Unit) : IR := (sQ [(tH s82_39), (tH s82_44), (kT l82_45)])
@[go_sem] def s82_47 (_ : Unit) : IR := (.loop (tH s82_46))
@[go_sem] def s82_48 (_ : Unit) : IR := (.block 6 (tH s82_47))
@[go_sem] def s82_49 (_ : Unit) : IR := (sQ [(kT l82_37), (tH s82_48)])
@[go_sem] def s82_50 (_ : Unit) : IR := (sQ [(tH s82_11), (tH s82_15), (tH s82_19), (.kd (oF l82_20 18) [(0, []), (1, []), (2, []), (3, []), (4, []), (5, []), (6, []), (7, []), (8, []), (9, []), (10, []), (11, []), (12, []), (13, []), (14, []), (15, []), (16, []), (17, [])] [0, 1, 2, 7, 8]), (tH s82_35), (kT l82_36), (.cond (.t 98) (tH s82_49) .skip)])
@[go_sem] def s82_51 (_ : Unit) : IR := (.block 1 (tH s82_50))
@[go_sem] def l82_52 (_ : Unit) : KL := [kA 15 (.mv (.t 8)),
  kA 16 (.bin .add (.t 15) (cI 1)),
  kB 8 (.mv (.t 16)) [0, 1, 2, 7, 8]]
@[go_sem] def s82_53 (_ : Unit) : IR := (sQ [(tH s82_4), (tH s82_51), (kT l82_52)])
@[go_sem] def s82_54 (_ : Unit) : IR := (.loop (tH s82_53))
@[go_sem] def s82_55 (_ : Unit) : IR := (.block 0 (tH s82_54))
@[go_sem] def s82_56 (_ : Unit) : IR := (sQ [(kT l82_2), (tH s82_55)])
@[go_sem] def l82_57 (_ : Unit) : KL := [kB 6 (.mv (.c (.bool false))) [6]]
@[go_sem] def s82_58 (_ : Unit) : IR := (sQ [(kT l82_0), (kT l82_1), (tH s82_56), (kT l82_57), .ret])
@[go_sem] def l84_0 (_ : Unit) : KL := [kB 8 (.mv (cI 0)) [0, 1, 2, 3]]
@[go_sem] def l84_1 : Nat → GOp
  | 0 => ⟨(some 11), .mv (.t 0), none⟩
  | 1 => ⟨(some 12), .mv (.t 1), none⟩
  | 2 => ⟨(some 13), .mv (.t 0), none⟩
  | 3 => ⟨(some 14), .mv (.t 3), none⟩
  | 4 => ⟨(some 15), .mv (.t 0), none⟩
  | 5 => ⟨(some 16), .mv (.t 3), none⟩
  | 6 => ⟨(some 17), .iaddr (.t 15) (.t 16) 1, none⟩
  | 7 => ⟨(some 18), .load (.t 17) 1 false, none⟩
  | 8 => ⟨(some 19), .mv (.t 0), none⟩
  | 9 => ⟨(some 20), .mv (.t 1), none⟩
  | 10 => ⟨(some 21), .iaddr (.t 19) (.t 20) 1, none⟩
  | 11 => ⟨(some 22), .load (.t 21) 1 false, none⟩
  | 12 => ⟨(some 23), .iaddr (.t 11) (.t 12) 1, none⟩
  | 13 => ⟨none, .store (.t 23) 1 (.t 18), none⟩
  | 14 => ⟨(some 24), .iaddr (.t 13) (.t 14) 1, none⟩
  | 15 => ⟨none, .store (.t 24) 1 (.t 22), none⟩
  | _ => ⟨none, .mkmap, none⟩
@[go_sem] def l84_2 (_ : Unit) : KL := [kA 25 (.mv (.t 1)),
  kA 26 (.bin .add (.t 25) (cI 1)),
  kA 27 (.mv (.t 2)),
  kA 28 (.bin .sub (.t 27) (cI 1)),
  kB 9 (.mv (.t 26)) [0, 1, 9, 28],
  kB 10 (.mv (.t 28)) [0, 1, 9, 10]]
@[go_sem] def l84_3 : Nat → GOp
  | 0 => ⟨(some 29), .mv (.t 9), none⟩
  | 1 => ⟨(some 30), .mv (.t 10), none⟩
  | 2 => ⟨(some 31), .bin .leq (.t 29) (.t 30), none⟩
  | 3 => ⟨(some 32), .mv (.t 31), none⟩
  | 4 => ⟨(some 33), .mv (.t 0), (some (32, true))⟩
  | 5 => ⟨(some 34), .mv (.t 1), (some (32, true))⟩
  | 6 => ⟨(some 35), .iaddr (.t 33) (.t 34) 1, (some (32, true))⟩
  | 7 => ⟨(some 36), .load (.t 35) 1 false, (some (32, true))⟩
  | 8 => ⟨(some 37), .mv (.t 0), (some (32, true))⟩
  | 9 => ⟨(some 38), .mv (.t 9), (some (32, true))⟩
  | 10 => ⟨(some 39), .iaddr (.t 37) (.t 38) 1, (some (32, true))⟩
  | 11 => ⟨(some 40), .load (.t 39) 1 false, (some (32, true))⟩
  | 12 => ⟨(some 41), .call (n_cmp_Less_int) [(.t 36), (.t 40)], (some (32, true))⟩
  | 13 => ⟨(some 42), .un .not (.t 41), (some (32, true))⟩
  | 14 => ⟨(some 43), .pick (.t 32) (.t 42) (.c (.bool false)), none⟩
  | _ => ⟨none, .mkmap, none⟩
@[go_sem] def s84_4 (_ : Unit) : IR := (sQ [(.kd (oF l84_3 15) [(0, []), (1, []), (2, []), (3, []), (4, []), (5, []), (6, []), (7, []), (8, []), (9, []), (10, []), (11, []), (12, []), (13, []), (14, [])] [0, 1, 9, 10, 43]), (.cond (.t 43) .skip (.exit 2))])
@[go_sem] def l84_5 (_ : Unit) : KL := [kA 44 (.mv (.t 9)),
  kA 45 (.bin .add (.t 44) (cI 1)),
  kB 9 (.mv (.t 45)) [0, 1, 9, 10]]
@[go_sem] def s84_6 (_ : Unit) : IR := (.block 3 (kT l84_5))
@[go_sem] def s84_7 (_ : Unit) : IR := (sQ [(tH s84_4), (tH s84_6)])
@[go_sem] def s84_8 (_ : Unit) : IR := (.loop (tH s84_7))
@[go_sem] def s84_9 (_ : Unit) : IR := (.block 2 (tH s84_8))
@[go_sem] def l84_10 : Nat → GOp
  | 0 => ⟨(some 46), .mv (.t 9), none⟩
  | 1 => ⟨(some 47), .mv (.t 10), none⟩
  | 2 => ⟨(some 48), .bin .leq (.t 46) (.t 47), none⟩
  | 3 => ⟨(some 49), .mv (.t 48), none⟩
  | 4 => ⟨(some 50), .mv (.t 0), (some (49, true))⟩
  | 5 => ⟨(some 51), .mv (.t 1), (some (49, true))⟩
  | 6 => ⟨(some 52), .iaddr (.t 50) (.t 51) 1, (some (49, true))⟩
  | 7 => ⟨(some 53), .load (.t 52) 1 false, (some (49, true))⟩
  | 8 => ⟨(some 54), .mv (.t 0), (some (49, true))⟩
  | 9 => ⟨(some 55), .mv (.t 10), (some (49, true))⟩
  | 10 => ⟨(some 56), .iaddr (.t 54) (.t 55) 1, (some (49, true))⟩
  | 11 => ⟨(some 57), .load (.t 56) 1 false, (some (49, true))⟩
  | 12 => ⟨(some 58), .call (n_cmp_Less_int) [(.t 53), (.t 57)], (some (49, true))⟩
  | 13 => ⟨(some 59), .pick (.t 49) (.t 58) (.c (.bool false)), none⟩
  | _ => ⟨none, .mkmap, none⟩
@[go_sem] def s84_11 (_ : Unit) : IR := (sQ [(.kd (oF l84_10 14) [(0, []), (1, []), (2, []), (3, []), (4, []), (5, []), (6, []), (7, []), (8, []), (9, []), (10, []), (11, []), (12, []), (13, [])] [0, 1, 9, 10, 59]), (.cond (.t 59) .skip (.exit 4))])
@[go_sem] def l84_12 (_ : Unit) : KL := [kA 60 (.mv (.t 10)),
  kA 61 (.bin .sub (.t 60) (cI 1)),
  kB 10 (.mv (.t 61)) [0, 1, 9, 10]]
@[go_sem] def s84_13 (_ : Unit) : IR := (.block 5 (kT l84_12))
@[go_sem] def s84_14 (_ : Unit) : IR := (sQ [(tH s84_11), (tH s84_13)])
@[go_sem] def s84_15 (_ : Unit) : IR := (.loop (tH s84_14))
@[go_sem] def s84_16 (_ : Unit) : IR := (.block 4 (tH s84_15))
@[go_sem] def l84_17 (_ : Unit) : KL := [kA 62 (.mv (.t 9)),
  kA 63 (.mv (.t 10)),
  kB 64 (.bin .gtr (.t 62) (.t 63)) [0, 1, 9, 10, 64]]
@[go_sem] def s84_18 (_ : Unit) : IR := (sQ [(kT l84_17), (.cond (.t 64) (.exit 0) .skip)])
@[go_sem] def l84_19 : Nat → GOp
  | 0 => ⟨(some 65), .mv (.t 0), none⟩
  | 1 => ⟨(some 66), .mv (.t 9), none⟩
  | 2 => ⟨(some 67), .mv (.t 0), none⟩
  | 3 => ⟨(some 68), .mv (.t 10), none⟩
  | 4 => ⟨(some 69), .mv (.t 0), none⟩
  | 5 => ⟨(some 70), .mv (.t 10), none⟩
  | 6 => ⟨(some 71), .iaddr (.t 69) (.t 70) 1, none⟩
  | 7 => ⟨(some 72), .load (.t 71) 1 false, none⟩
  | 8 => ⟨(some 73), .mv (.t 0), none⟩
  | 9 => ⟨(some 74), .mv (.t 9), none⟩
  | 10 => ⟨(some 75), .iaddr (.t 73) (.t 74) 1, none⟩
  | 11 => ⟨(some 76), .load (.t 75) 1 false, none⟩
  | 12 => ⟨(some 77), .iaddr (.t 65) (.t 66) 1, none⟩
  | 13 => ⟨none, .store (.t 77) 1 (.t 72), none⟩
  | 14 => ⟨(some 78), .iaddr (.t 67) (.t 68) 1, none⟩
  | 15 => ⟨none, .store (.t 78) 1 (.t 76), none⟩
  | _ => ⟨none, .mkmap, none⟩
@[go_sem] def l84_20 (_ : Unit) : KL := [kA 79 (.mv (.t 9)),
  kA 80 (.bin .add (.t 79) (cI 1)),
  kB 9 (.mv (.t 80)) [0, 1, 9, 10]]
@[go_sem] def l84_21 (_ : Unit) : KL := [kA 81 (.mv (.t 10)),
  kA 82 (.bin .sub (.t 81) (cI 1)),
  kB 10 (.mv (.t 82)) [0, 1, 9, 10]]
@[go_sem] def s84_22 (_ : Unit) : IR := (sQ [(tH s84_9), (tH s84_16), (tH s84_18), (.kd (oF l84_19 16) [(0, []), (1, []), (2, []), (3, []), (4, []), (5, []), (6, []), (7, []), (8, []), (9, []), (10, []), (11, []), (12, []), (13, []), (14, []), (15, [])] [0, 1, 9, 10]), (kT l84_20), (kT l84_21)])
@[go_sem] def s84_23 (_ : Unit) : IR := (.block 1 (tH s84_22))
@[go_sem] def s84_24 (_ : Unit) : IR := (.loop (tH s84_23))
@[go_sem] def s84_25 (_ : Unit) : IR := (.block 0 (tH s84_24))
@[go_sem] def l84_26 (_ : Unit) : KL := [kA 83 (.mv (.t 9)),
  kB 8 (.mv (.t 83)) [8]]
@[go_sem] def s84_27 (_ : Unit) : IR := (sQ [(kT l84_0), (.kd (oF l84_1 16) [(0, []), (1, []), (2, []), (3, []), (4, []), (5, []), (6, []), (7, []), (8, []), (9, []), (10, []), (11, []), (12, []), (13, []), (14, []), (15, [])] [0, 1, 2]), (kT l84_2), (tH s84_25), (kT l84_26), .ret])
@[go_sem] def l85_0 (_ : Unit) : KL := [kA 8 (.mv (cI 0)),
  kB 9 (.mv (.c (.bool false))) [0, 1, 2, 3]]
@[go_sem] def l85_1 : Nat → GOp
  | 0 => ⟨(some 12), .mv (.t 0), none⟩
  | 1 => ⟨(some 13), .mv (.t 1), none⟩
  | 2 => ⟨(some 14), .mv (.t 0), none⟩
  | 3 => ⟨(some 15), .mv (.t 3), none⟩
  | 4 => ⟨(some 16), .mv (.t 0), none⟩
  | 5 => ⟨(some 17), .mv (.t 3), none⟩
  | 6 => ⟨(some 18), .iaddr (.t 16) (.t 17) 1, none⟩
  | 7 => ⟨(some 19), .load (.t 18) 1 false, none⟩
  | 8 => ⟨(some 20), .mv (.t 0), none⟩
  | 9 => ⟨(some 21), .mv (.t 1), none⟩
  | 10 => ⟨(some 22), .iaddr (.t 20) (.t 21) 1, none⟩
  | 11 => ⟨(some 23), .load (.t 22) 1 false, none⟩
  | 12 => ⟨(some 24), .iaddr (.t 12) (.t 13) 1, none⟩
  | 13 => ⟨none, .store (.t 24) 1 (.t 19), none⟩
  | 14 => ⟨(some 25), .iaddr (.t 14) (.t 15) 1, none⟩
  | 15 => ⟨none, .store (.t 25) 1 (.t 23), none⟩
  | _ => ⟨none, .mkmap, none⟩
@[go_sem] def l85_2 (_ : Unit) : KL := [kA 26 (.mv (.t 1)),
  kA 27 (.bin .add (.t 26) (cI 1)),
  kA 28 (.mv (.t 2)),
  kA 29 (.bin .sub (.t 28) (cI 1)),
  kB 10 (.mv (.t 27)) [0, 1, 10, 29],
  kB 11 (.mv (.t 29)) [0, 1, 10, 11]]
@[go_sem] def l85_3 : Nat → GOp
  | 0 => ⟨(some 30), .mv (.t 10), none⟩
  | 1 => ⟨(some 31), .mv (.t 11), none⟩
  | 2 => ⟨(some 32), .bin .leq (.t 30) (.t 31), none⟩
  | 3 => ⟨(some 33), .mv (.t 32), none⟩
  | 4 => ⟨(some 34), .mv (.t 0), (some (33, true))⟩
  | 5 => ⟨(some 35), .mv (.t 10), (some (33, true))⟩
  | 6 => ⟨(some 36), .iaddr (.t 34) (.t 35) 1, (some (33, true))⟩
  | 7 => ⟨(some 37), .load (.t 36) 1 false, (some (33, true))⟩
  | 8 => ⟨(some 38), .mv (.t 0), (some (33, true))⟩
  | 9 => ⟨(some 39), .mv (.t 1), (some (33, true))⟩
  | 10 => ⟨(some 40), .iaddr (.t 38) (.t 39) 1, (some (33, true))⟩
  | 11 => ⟨(some 41), .load (.t 40) 1 false, (some (33, true))⟩
  | 12 => ⟨(some 42), .call (n_cmp_Less_int) [(.t 37), (.t 41)], (some (33, true))⟩
  | 13 => ⟨(some 43), .pick (.t 33) (.t 42) (.c (.bool false)), none⟩
  | _ => ⟨none, .mkmap, none⟩
@[go_sem] def s85_4 (_ : Unit) : IR := (sQ [(.kd (oF l85_3 14) [(0, []), (1, []), (2, []), (3, []), (4, []), (5, []), (6, []), (7, []), (8, []), (9, []), (10, []), (11, []), (12, []), (13, [])] [0, 1, 10, 11, 43]), (.cond (.t 43) .skip (.exit 0))])
@[go_sem] def l85_5 (_ : Unit) : KL := [kA 44 (.mv (.t 10)),
  kA 45 (.bin .add (.t 44) (cI 1)),
  kB 10 (.mv (.t 45)) [0, 1, 10, 11]]
@[go_sem] def s85_6 (_ : Unit) : IR := (.block 1 (kT l85_5))
@[go_sem] def s85_7 (_ : Unit) : IR := (sQ [(tH s85_4), (tH s85_6)])
@[go_sem] def s85_8 (_ : Unit) : IR := (.loop (tH s85_7))
@[go_sem] def s85_9 (_ : Unit) : IR := (.block 0 (tH s85_8))
@[go_sem] def l85_10 : Nat → GOp
  | 0 => ⟨(some 46), .mv (.t 10), none⟩
  | 1 => ⟨(some 47), .mv (.t 11), none⟩
  | 2 => ⟨(some 48), .bin .leq (.t 46) (.t 47), none⟩
  | 3 => ⟨(some 49), .mv (.t 48), none⟩
  | 4 => ⟨(some 50), .mv (.t 0), (some (49, true))⟩
  | 5 => ⟨(some 51), .mv (.t 11), (some (49, true))⟩
  | 6 => ⟨(some 52), .iaddr (.t 50) (.t 51) 1, (some (49, true))⟩
  | 7 => ⟨(some 53), .load (.t 52) 1 false, (some (49, true))⟩
  | 8 => ⟨(some 54), .mv (.t 0), (some (49, true))⟩
  | 9 => ⟨(some 55), .mv (.t 1), (some (49, true))⟩
  | 10 => ⟨(some 56), .iaddr (.t 54) (.t 55) 1, (some (49, true))⟩
  | 11 => ⟨(some 57), .load (.t 56) 1 false, (some (49, true))⟩
  | 12 => ⟨(some 58), .call (n_cmp_Less_int) [(.t 53), (.t 57)], (some (49, true))⟩
  | 13 => ⟨(some 59), .un .not (.t 58), (some (49, true))⟩
  | 14 => ⟨(some 60), .pick (.t 49) (.t 59) (.c (.bool false)), none⟩
  | _ => ⟨none, .mkmap, none⟩
@[go_sem] def s85_11 (_ : Unit) : IR := (sQ [(.kd (oF l85_10 15) [(0, []), (1, []), (2, []), (3, []), (4, []), (5, []), (6, []), (7, []), (8, []), (9, []), (10, []), (11, []), (12, []), (13, []), (14, [])] [0, 1, 10, 11, 60]), (.cond (.t 60) .skip (.exit 2))])
@[go_sem] def l85_12 (_ : Unit) : KL := [kA 61 (.mv (.t 11)),
  kA 62 (.bin .sub (.t 61) (cI 1)),
  kB 11 (.mv (.t 62)) [0, 1, 10, 11]]
@[go_sem] def s85_13 (_ : Unit) : IR := (.block 3 (kT l85_12))
@[go_sem] def s85_14 (_ : Unit) : IR := (sQ [(tH s85_11), (tH s85_13)])
@[go_sem] def s85_15 (_ : Unit) : IR := (.loop (tH s85_14))
@[go_sem] def s85_16 (_ : Unit) : IR := (.block 2 (tH s85_15))
@[go_sem] def l85_17 (_ : Unit) : KL := [kA 63 (.mv (.t 10)),
  kA 64 (.mv (.t 11)),
  kB 65 (.bin .gtr (.t 63) (.t 64)) [0, 1, 10, 11, 65]]
@[go_sem] def l85_18 : Nat → GOp
  | 0 => ⟨(some 66), .mv (.t 0), none⟩
  | 1 => ⟨(some 67), .mv (.t 11), none⟩
  | 2 => ⟨(some 68), .mv (.t 0), none⟩
  | 3 => ⟨(some 69), .mv (.t 1), none⟩
  | 4 => ⟨(some 70), .mv (.t 0), none⟩
  | 5 => ⟨(some 71), .mv (.t 1), none⟩
  | 6 => ⟨(some 72), .iaddr (.t 70) (.t 71) 1, none⟩
  | 7 => ⟨(some 73), .load (.t 72) 1 false, none⟩
  | 8 => ⟨(some 74), .mv (.t 0), none⟩
  | 9 => ⟨(some 75), .mv (.t 11), none⟩
  | 10 => ⟨(some 76), .iaddr (.t 74) (.t 75) 1, none⟩
  | 11 => ⟨(some 77), .load (.t 76) 1 false, none⟩
  | 12 => ⟨(some 78), .iaddr (.t 66) (.t 67) 1, none⟩
  | 13 => ⟨none, .store (.t 78) 1 (.t 73), none⟩
  | 14 => ⟨(some 79), .iaddr (.t 68) (.t 69) 1, none⟩
  | 15 => ⟨none, .store (.t 79) 1 (.t 77), none⟩
  | _ => ⟨none, .mkmap, none⟩
@[go_sem] def l85_19 (_ : Unit) : KL := [kA 80 (.mv (.t 11)),
  kA 8 (.mv (.t 80)),
  kB 9 (.mv (.c (.bool true))) [8, 9]]
@[go_sem] def s85_20 (_ : Unit) : IR := (sQ [(.kd (oF l85_18 16) [(0, []), (1, []), (2, []), (3, []), (4, []), (5, []), (6, []), (7, []), (8, []), (9, []), (10, []), (11, []), (12, []), (13, []), (14, []), (15, [])] [11]), (kT l85_19), .ret])
@[go_sem] def s85_21 (_ : Unit) : IR := (sQ [(kT l85_17), (.cond (.t 65) (tH s85_20) .skip)])
@[go_sem] def l85_22 : Nat → GOp
  | 0 => ⟨(some 81), .mv (.t 0), none⟩
  | 1 => ⟨(some 82), .mv (.t 10), none⟩
  | 2 => ⟨(some 83), .mv (.t 0), none⟩
  | 3 => ⟨(some 84), .mv (.t 11), none⟩
  | 4 => ⟨(some 85), .mv (.t 0), none⟩
  | 5 => ⟨(some 86), .mv (.t 11), none⟩
  | 6 => ⟨(some 87), .iaddr (.t 85) (.t 86) 1, none⟩
  | 7 => ⟨(some 88), .load (.t 87) 1 false, none⟩
  | 8 => ⟨(some 89), .mv (.t 0), none⟩
  | 9 => ⟨(some 90), .mv (.t 10), none⟩
  | 10 => ⟨(some 91), .iaddr (.t 89) (.t 90) 1, none⟩
  | 11 => ⟨(some 92), .load (.t 91) 1 false, none⟩
  | 12 => ⟨(some 93), .iaddr (.t 81) (.t 82) 1, none⟩
  | 13 => ⟨none, .store (.t 93) 1 (.t 88), none⟩
  | 14 => ⟨(some 94), .iaddr (.t 83) (.t 84) 1, none⟩
  | 15 => ⟨none, .store (.t 94) 1 (.t 92), none⟩
  | _ => ⟨none, .mkmap, none⟩
@[go_sem] def l85_23 (_ : Unit) : KL := [kA 95 (.mv (.t 10)),
  kA 96 (.bin .add (.t 95) (cI 1)),
  kB 10 (.mv (.t 96)) [0, 1, 10, 11]]
@[go_sem] def l85_24 (_ : Unit) : KL := [kA 97 (.mv (.t 11)),
  kA 98 (.bin .sub (.t 97) (cI 1)),
  kB 11 (.mv (.t 98)) [0, 1, 10, 11]]
@[go_sem] def l85_25 : Nat → GOp
  | 0 => ⟨(some 99), .mv (.t 10), none⟩
  | 1 => ⟨(some 100), .mv (.t 11), none⟩
  | 2 => ⟨(some 101), .bin .leq (.t 99) (.t 100), none⟩
  | 3 => ⟨(some 102), .mv (.t 101), none⟩
  | 4 => ⟨(some 103), .mv (.t 0), (some (102, true))⟩
  | 5 => ⟨(some 104), .mv (.t 10), (some (102, true))⟩
  | 6 => ⟨(some 105), .iaddr (.t 103) (.t 104) 1, (some (102, true))⟩
  | 7 => ⟨(some 106), .load (.t 105) 1 false, (some (102, true))⟩
  | 8 => ⟨(some 107), .mv (.t 0), (some (102, true))⟩
  | 9 => ⟨(some 108), .mv (.t 1), (some (102, true))⟩
  | 10 => ⟨(some 109), .iaddr (.t 107) (.t 108) 1, (some (102, true))⟩
  | 11 => ⟨(some 110), .load (.t 109) 1 false, (some (102, true))⟩
  | 12 => ⟨(some 111), .call (n_cmp_Less_int) [(.t 106), (.t 110)], (some (102, true))⟩
  | 13 => ⟨(some 112), .pick (.t 102) (.t 111) (.c (.bool false)), none⟩
  | _ => ⟨none, .mkmap, none⟩
@[go_sem] def s85_26 (_ : Unit) : IR := (sQ [(.kd (oF l85_25 14) [(0, []), (1, []), (2, []), (3, []), (4, []), (5, []), (6, []), (7, []), (8, []), (9, []), (10, []), (11, []), (12, []), (13, [])] [0, 1, 10, 11, 112]), (.cond (.t 112) .skip (.exit 6))])
@[go_sem] def l85_27 (_ : Unit) : KL := [kA 113 (.mv (.t 10)),
  kA 114 (.bin .add (.t 113) (cI 1)),
  kB 10 (.mv (.t 114)) [0, 1, 10, 11]]
@[go_sem] def s85_28 (_ : Unit) : IR := (.block 7 (kT l85_27))
@[go_sem] def s85_29 (_ : Unit) : IR := (sQ [(tH s85_26), (tH s85_28)])
@[go_sem] def s85_30 (_ : Unit) : IR := (.loop (tH s85_29))
@[go_sem] def s85_31 (_ : Unit) : IR := (.block 6 (tH s85_30))
@[go_sem] def l85_32 : Nat → GOp
  | 0 => ⟨(some 115), .mv (.t 10), none⟩
  | 1 => ⟨(some 116), .mv (.t 11), none⟩
  | 2 => ⟨(some 117), .bin .leq (.t 115) (.t 116), none⟩
  | 3 => ⟨(some 118), .mv (.t 117), none⟩
  | 4 => ⟨(some 119), .mv (.t 0), (some (118, true))⟩
  | 5 => ⟨(some 120), .mv (.t 11), (some (118, true))⟩
  | 6 => ⟨(some 121), .iaddr (.t 119) (.t 120) 1, (some (118, true))⟩
  | 7 => ⟨(some 122), .load (.t 121) 1 false, (some (118, true))⟩
  | 8 => ⟨(some 123), .mv (.t 0), (some (118, true))⟩
  | 9 => ⟨(some 124), .mv (.t 1), (some (118, true))⟩
  | 10 => ⟨(some 125), .iaddr (.t 123) (.t 124) 1, (some (118, true))⟩
  | 11 => ⟨(some 126), .load (.t 125) 1 false, (some (118, true))⟩
  | 12 => ⟨(some 127), .call (n_cmp_Less_int) [(.t 122), (.t 126)], (some (118, true))⟩
  | 13 => ⟨(some 128), .un .not (.t 127), (some (118, true))⟩
  | 14 => ⟨(some 129), .pick (.t 118) (.t 128) (.c (.bool false)), none⟩
  | _ => ⟨none, .mkmap, none⟩
@[go_sem] def s85_33 (_ : Unit) : IR := (sQ [(.kd (oF l85_32 15) [(0, []), (1, []), (2, []), (3, []), (4, []), (5, []), (6, []), (7, []), (8, []), (9, []), (10, []), (11, []), (12, []), (13, []), (14, [])] [0, 1, 10, 11, 129]), (.cond (.t 129) .skip (.exit 8))])
@[go_sem] def l85_34 (_ : Unit) : KL := [kA 130 (.mv (.t 11)),
  kA 131 (.bin .sub (.t 130) (cI 1)),
  kB 11 (.mv (.t 131)) [0, 1, 10, 11]]
@[go_sem] def s85_35 (_ : Unit) : IR := (.block 9 (kT l85_34))
@[go_sem] def s85_36 (_ : Unit) : IR := (sQ [(tH s85_33), (tH s85_35)])
@[go_sem] def s85_37 (_ : Unit) : IR := (.loop (tH s85_36))
@[go_sem] def s85_38 (_ : Unit) : IR := (.block 8 (tH s85_37))
@[go_sem] def l85_39 (_ : Unit) : KL := [kA 132 (.mv (.t 10)),
  kA 133 (.mv (.t 11)),
  kB 134 (.bin .gtr (.t 132) (.t 133)) [0, 1, 10, 11, 134]]
@[go_sem] def s85_40 (_ : Unit) : IR := (sQ [(kT l85_39), (.cond (.t 134) (.exit 4) .skip)])
@[go_sem] def l85_41 : Nat → GOp
  | 0 => ⟨(some 135), .mv (.t 0), none⟩
  | 1 => ⟨(some 136), .mv (.t 10), none⟩
  | 2 => ⟨(some 137), .mv (.t 0), none⟩
  | 3 => ⟨(some 138), .mv (.t 11), none⟩
  | 4 => ⟨(some 139), .mv (.t 0), none⟩
  | 5 => ⟨(some 140), .mv (.t 11), none⟩
  | 6 => ⟨(some 141), .iaddr (.t 139) (.t 140) 1, none⟩
  | 7 => ⟨(some 142), .load (.t 141) 1 false, none⟩
  | 8 => ⟨(some 143), .mv (.t 0), none⟩
  | 9 => ⟨(some 144), .mv (.t 10), none⟩
  | 10 => ⟨(some 145), .iaddr (.t 143) (.t 144) 1, none⟩
  | 11 => ⟨(some 146), .load (.t 145) 1 false, none⟩
  | 12 => ⟨(some 147), .iaddr (.t 135) (.t 136) 1, none⟩
  | 13 => ⟨none, .store (.t 147) 1 (.t 142), none⟩
  | 14 => ⟨(some 148), .iaddr (.t 137) (.t 138) 1, none⟩
  | 15 => ⟨none, .store (.t 148) 1 (.t 146), none⟩
  | _ => ⟨none, .mkmap, none⟩
@[go_sem] def l85_42 (_ : Unit) : KL := [kA 149 (.mv (.t 10)),
  kA 150 (.bin .add (.t 149) (cI 1)),
  kB 10 (.mv (.t 150)) [0, 1, 10, 11]]
@[go_sem] def l85_43 (_ : Unit) : KL := [kA 151 (.mv (.t 11)),
  kA 152 (.bin .sub (.t 151) (cI 1)),
  kB 11 (.mv (.t 152)) [0, 1, 10, 11]]
@[go_sem] def s85_44 (_ : Unit) : IR := (sQ [(tH s85_31), (tH s85_38), (tH s85_40), (.kd (oF l85_41 16) [(0, []), (1, []), (2, []), (3, []), (4, []), (5, []), (6, []), (7, []), (8, []), (9, []), (10, []), (11, []), (12, []), (13, []), (14, []), (15, [])] [0, 1, 10, 11]), (kT l85_42), (kT l85_43)])
@[go_sem] def s85_45 (_ : Unit) : IR := (.block 5 (tH s85_44))
@[go_sem] def s85_46 (_ : Unit) : IR := (.loop (tH s85_45))
@[go_sem] def s85_47 (_ : Unit) : IR := (.block 4 (tH s85_46))
@[go_sem] def l85_48 : Nat → GOp
  | 0 => ⟨(some 153), .mv (.t 0), none⟩
  | 1 => ⟨(some 154), .mv (.t 11), none⟩
  | 2 => ⟨(some 155), .mv (.t 0), none⟩
  | 3 => ⟨(some 156), .mv (.t 1), none⟩
  | 4 => ⟨(some 157), .mv (.t 0), none⟩
  | 5 => ⟨(some 158), .mv (.t 1), none⟩
  | 6 => ⟨(some 159), .iaddr (.t 157) (.t 158) 1, none⟩
  | 7 => ⟨(some 160), .load (.t 159) 1 false, none⟩
  | 8 => ⟨(some 161), .mv (.t 0), none⟩
  | 9 => ⟨(some 162), .mv (.t 11), none⟩
  | 10 => ⟨(some 163), .iaddr (.t 161) (.t 162) 1, none⟩
  | 11 => ⟨(some 164), .load (.t 163) 1 false, none⟩
  | 12 => ⟨(some 165), .iaddr (.t 153) (.t 154) 1, none⟩
  | 13 => ⟨none, .store (.t 165) 1 (.t 160), none⟩
  | 14 => ⟨(some 166), .iaddr (.t 155) (.t 156) 1, none⟩
  | 15 => ⟨none, .store (.t 166) 1 (.t 164), none⟩
  | _ => ⟨none, .mkmap, none⟩
@[go_sem] def l85_49 (_ : Unit) : KL := [kA 167 (.mv (.t 11)),
  kA 8 (.mv (.t 167)),
  kB 9 (.mv (.c (.bool false))) [8, 9]]
@[go_sem] def s85_50 (_ : Unit) : IR := (sQ [(kT l85_0), (.kd (oF l85_1 16) [(0, []), (1, []), (2, []), (3, []), (4, []), (5, []), (6, []), (7, []), (8, []), (9, []), (10, []), (11, []), (12, []), (13, []), (14, []), (15, [])] [0, 1, 2]), (kT l85_2), (tH s85_9), (tH s85_16), (tH s85_21), (.kd (oF l85_22 16) [(0, []), (1, []), (2, []), (3, []), (4, []), (5, []), (6, []), (7, []), (8, []), (9, []), (10, []), (11, []), (12, []), (13, []), (14, []), (15, [])] [0, 1, 10, 11]), (kT l85_23), (kT l85_24), (tH s85_47), (.kd (oF l85_48 16) [(0, []), (1, []), (2, []), (3, []), (4, []), (5, []), (6, []), (7, []), (8, []), (9, []), (10, []), (11, []), (12, []), (13, []), (14, []), (15, [])] [11]), (kT l85_49), .ret])
@[go_sem] def l70_0 (_ : Unit) : KL := [kB 8 (.mv (.c (.bool true))) [0, 1, 2, 3, 8]]
@[go_sem] def l70_1 (_ : Unit) : KL := [kB 9 (.mv (.c (.bool true))) [0, 1, 2, 3, 8, 9]]
@[go_sem] def l70_2 (_ : Unit) : KL := [kA 19 (.mv (.t 2)),
  kA 20 (.mv (.t 1)),
  kA 21 (.bin .sub (.t 19) (.t 20)),
  kB 10 (.mv (.t 21)) [0, 1, 2, 3, 8, 9, 10]]
@[go_sem] def l70_3 (_ : Unit) : KL := [kA 22 (.mv (.t 10)),
  kB 23 (.bin .leq (.t 22) (.c (.int .i64 12))) [0, 1, 2, 3, 8, 9, 10, 23]]
@[go_sem] def l70_4 (_ : Unit) : KL := [kA 24 (.mv (.t 0)),
  kA 25 (.mv (.t 1)),
  kA 26 (.mv (.t 2)),
  kB 27 (.call (n_slices_insertionSortOrdered_int) [(.t 24), (.t 25), (.t 26)]) []]
@[go_sem] def s70_5 (_ : Unit) : IR := (sQ [(kT l70_4), .ret])
@[go_sem] def s70_6 (_ : Unit) : IR := (sQ [(kT l70_3), (.cond (.t 23) (tH s70_5) .skip)])
@[go_sem] def l70_7 (_ : Unit) : KL := [kA 28 (.mv (.t 3)),
  kB 29 (.bin .eql (.t 28) (cI 0)) [0, 1, 2, 3, 8, 9, 10, 29]]
@[go_sem] def l70_8 (_ : Unit) : KL := [kA 30 (.mv (.t 0)),
  kA 31 (.mv (.t 1)),
  kA 32 (.mv (.t 2)),
  kB 33 (.call (n_slices_heapSortOrdered_int) [(.t 30), (.t 31), (.t 32)]) []]
@[go_sem] def s70_9 (_ : Unit) : IR := (sQ [(kT l70_8), .ret])
@[go_sem] def s70_10 (_ : Unit) : IR := (sQ [(kT l70_7), (.cond (.t 29) (tH s70_9) .skip)])
@[go_sem] def l70_11 (_ : Unit) : KL := [kA 34 (.mv (.t 8)),
  kB 35 (.un .not (.t 34)) [0, 1, 2, 3, 8, 9, 10, 35]]
@[go_sem] def l70_12 (_ : Unit) : KL := [kA 36 (.mv (.t 0)),
  kA 37 (.mv (.t 1)),
  kA 38 (.mv (.t 2)),
  kB 39 (.call (n_slices_breakPatternsOrdered_int) [(.t 36), (.t 37), (.t 38)]) [0, 1, 2, 3, 8, 9, 10]]
@[go_sem] def l70_13 (_ : Unit) : KL := [kA 40 (.mv (.t 3)),
  kA 41 (.bin .sub (.t 40) (cI 1)),
  kB 3 (.mv (.t 41)) [0, 1, 2, 3, 8, 9, 10]]
@[go_sem] def s70_14 (_ : Unit) : IR := (sQ [(kT l70_12), (kT l70_13)])
@[go_sem] def s70_15 (_ : Unit) : IR := (sQ [(kT l70_11), (.cond (.t 35) (tH s70_14) .skip)])
@[go_sem] def l70_16 (_ : Unit) : KL := [kA 43 (.mv (.t 0)),
  kA 44 (.mv (.t 1)),
  kA 45 (.mv (.t 2)),
  kA 46 (.call (n_slices_choosePivotOrdered_int) [(.t 43), (.t 44), (.t 45)]),
  kB 42 (.mv (.t 46)) [0, 1, 2, 3, 8, 9, 10, 42],
  kA 47 (.ext (.t 42) 0),
  kA 48 (.ext (.t 42) 1),
  kA 11 (.mv (.t 47)),
  kB 12 (.mv (.t 48)) [0, 1, 2, 3, 8, 9, 10, 11, 12]]
@[go_sem] def l70_17 (_ : Unit) : KL := [kA 49 (.mv (.t 12)),
  kB 50 (.bin .eql (.t 49) (.c (.int .i64 2))) [0, 1, 2, 3, 8, 9, 10, 11, 12, 50]]
@[go_sem] def l70_18 (_ : Unit) : KL := [kA 51 (.mv (.t 0)),
  kA 52 (.mv (.t 1)),
  kA 53 (.mv (.t 2)),
  kB 54 (.call (n_slices_reverseRangeOrdered_int) [(.t 51), (.t 52), (.t 53)]) [0, 1, 2, 3, 8, 9, 10, 11]]
@[go_sem] def l70_19 (_ : Unit) : KL := [kA 55 (.mv (.t 2)),
  kA 56 (.bin .sub (.t 55) (cI 1)),
  kA 57 (.mv (.t 11)),
  kA 58 (.mv (.t 1)),
  kB 59 (.bin .sub (.t 57) (.t 58)) [0, 1, 2, 3, 8, 9, 10, 56, 59],
  kA 60 (.bin .sub (.t 56) (.t 59)),
  kB 11 (.mv (.t 60)) [0, 1, 2, 3, 8, 9, 10, 11]]
@[go_sem] def l70_20 (_ : Unit) : KL := [kB 12 (.mv (cI 1)) [0, 1, 2, 3, 8, 9, 10, 11, 12]]
@[go_sem] def s70_21 (_ : Unit) : IR := (sQ [(kT l70_18), (kT l70_19), (kT l70_20)])
@[go_sem] def s70_22 (_ : Unit) : IR := (sQ [(kT l70_17), (.cond (.t 50) (tH s70_21) .skip)])
@[go_sem] def l70_23 (_ : Unit) : KL := [kA 61 (.mv (.t 8)),
  kA 62 (.mv (.t 61)),
  (⟨(some 63), .mv (.t 9), (some (62, true))⟩, none),
  kA 64 (.pick (.t 62) (.t 63) (.c (.bool false))),
  kB 65 (.mv (.t 64)) [0, 1, 2, 3, 8, 9, 10, 11, 12, 65],
  (⟨(some 66), .mv (.t 12), (some (65, true))⟩, none),
  (⟨(some 67), .bin .eql (.t 66) (cI 1), (some (65, true))⟩, none),
  kB 68 (.pick (.t 65) (.t 67) (.c (.bool false))) [0, 1, 2, 3, 8, 9, 10, 11, 68]]
@[go_sem] def l70_24 (_ : Unit) : KL := [kA 69 (.mv (.t 0)),
  kA 70 (.mv (.t 1)),
  kA 71 (.mv (.t 2)),
  kB 72 (.call (n_slices_partialInsertionSortOrdered_int) [(.t 69), (.t 70), (.t 71)]) [0, 1, 2, 3, 8, 9, 10, 11, 72]]
@[go_sem] def s70_25 (_ : Unit) : IR := (sQ [(kT l70_24), (.cond (.t 72) .ret .skip)])
@[go_sem] def s70_26 (_ : Unit) : IR := (sQ [(kT l70_23), (.cond (.t 68) (tH s70_25) .skip)])
@[go_sem] def l70_27 : Nat → GOp
  | 0 => ⟨(some 73), .mv (.t 1), none⟩
  | 1 => ⟨(some 74), .bin .gtr (.t 73) (cI 0), none⟩
  | 2 => ⟨(some 75), .mv (.t 74), none⟩
  | 3 => ⟨(some 76), .mv (.t 0), (some (75, true))⟩
  | 4 => ⟨(some 77), .mv (.t 1), (some (75, true))⟩
  | 5 => ⟨(some 78), .bin .sub (.t 77) (cI 1), (some (75, true))⟩
  | 6 => ⟨(some 79), .iaddr (.t 76) (.t 78) 1, (some (75, true))⟩
  | 7 => ⟨(some 80), .load (.t 79) 1 false, (some (75, true))⟩
  | 8 => ⟨(some 81), .mv (.t 0), (some (75, true))⟩
  | 9 => ⟨(some 82), .mv (.t 11), (some (75, true))⟩
  | 10 => ⟨(some 83), .iaddr (.t 81) (.t 82) 1, (some (75, true))⟩
  | 11 => ⟨(some 84), .load (.t 83) 1 false, (some (75, true))⟩
  | 12 => ⟨(some 85), .call (n_cmp_Less_int) [(.t 80), (.t 84)], (some (75, true))⟩
  | 13 => ⟨(some 86), .un .not (.t 85), (some (75, true))⟩
  | 14 => ⟨(some 87), .pick (.t 75) (.t 86) (.c (.bool false)), none⟩
  | _ => ⟨none, .mkmap, none⟩
@[go_sem] def l70_28 (_ : Unit) : KL := [kA 88 (.mv (.t 0)),
  kA 89 (.mv (.t 1)),
  kA 90 (.mv (.t 2)),
  kA 91 (.mv (.t 11)),
  kB 92 (.call (n_slices_partitionEqualOrdered_int) [(.t 88), (.t 89), (.t 90), (.t 91)]) [0, 2, 3, 8, 9, 92],
  kB 13 (.mv (.t 92)) [0, 2, 3, 8, 9, 13]]
@[go_sem] def l70_29 (_ : Unit) : KL := [kA 93 (.mv (.t 13)),
  kB 1 (.mv (.t 93)) [0, 1, 2, 3, 8, 9]]
@[go_sem] def s70_30 (_ : Unit) : IR := (sQ [(kT l70_28), (kT l70_29), (.exit 1)])
@[go_sem] def s70_31 (_ : Unit) : IR := (sQ [(.kd (oF l70_27 15) [(0, []), (1, []), (2, []), (3, []), (4, []), (5, []), (6, []), (7, []), (8, []), (9, []), (10, []), (11, []), (12, []), (13, []), (14, [])] [0, 1, 2, 3, 8, 9, 10, 11, 87]), (.cond (.t 87) (tH s70_30) .skip)])
@[go_sem] def l70_32 (_ : Unit) : KL := [kA 95 (.mv (.t 0)),
  kA 96 (.mv (.t 1)),
  kA 97 (.mv (.t 2)),
  kA 98 (.mv (.t 11)),
  kB 99 (.call (n_slices_partitionOrdered_int) [(.t 95), (.t 96), (.t 97), (.t 98)]) [0, 1, 2, 3, 10, 99],
  kA 94 (.mv (.t 99)),
  kA 100 (.ext (.t 94) 0),
  kA 101 (.ext (.t 94) 1),
  kA 14 (.mv (.t 100)),
  kB 15 (.mv (.t 101)) [0, 1, 2, 3, 10, 14, 15]]
@[go_sem] def l70_33 (_ : Unit) : KL := [kA 102 (.mv (.t 15)),
  kB 9 (.mv (.t 102)) [0, 1, 2, 3, 9, 10, 14]]
@[go_sem] def l70_34 (_ : Unit) : KL := [kA 103 (.mv (.t 14)),
  kA 104 (.mv (.t 1)),
  kA 105 (.bin .sub (.t 103) (.t 104)),
  kA 106 (.mv (.t 2)),
  kB 107 (.mv (.t 14)) [0, 1, 2, 3, 9, 10, 14, 105, 106, 107],
  kA 108 (.bin .sub (.t 106) (.t 107)),
  kA 16 (.mv (.t 105)),
  kB 17 (.mv (.t 108)) [0, 1, 2, 3, 9, 10, 14, 16, 17]]
@[go_sem] def l70_35 (_ : Unit) : KL := [kA 109 (.mv (.t 10)),
  kA 110 (.bin .quo (.t 109) (.c (.int .i64 8))),
  kB 18 (.mv (.t 110)) [0, 1, 2, 3, 9, 14, 16, 17, 18]]
@[go_sem] def l70_36 (_ : Unit) : KL := [kA 111 (.mv (.t 16)),
  kA 112 (.mv (.t 17)),
  kB 113 (.bin .lss (.t 111) (.t 112)) [0, 1, 2, 3, 9, 14, 16, 17, 18, 113]]
@[go_sem] def l70_37 (_ : Unit) : KL := [kA 114 (.mv (.t 16)),
  kA 115 (.mv (.t 18)),
  kA 116 (.bin .geq (.t 114) (.t 115)),
  kB 8 (.mv (.t 116)) [0, 1, 2, 3, 8, 9, 14]]
@[go_sem] def l70_38 (_ : Unit) : KL := [kA 117 (.mv (.t 0)),
  kA 118 (.mv (.t 1)),
  kA 119 (.mv (.t 14)),
  kA 120 (.mv (.t 3)),
  kB 121 (.call (n_slices_pdqsortOrdered_int) [(.t 117), (.t 118), (.t 119), (.t 120)]) [0, 2, 3, 8, 9, 14]]
@[go_sem] def l70_39 (_ : Unit) : KL := [kA 122 (.mv (.t 14)),
  kA 123 (.bin .add (.t 122) (cI 1)),
  kB 1 (.mv (.t 123)) [0, 1, 2, 3, 8, 9]]
@[go_sem] def s70_40 (_ : Unit) : IR := (sQ [(kT l70_37), (kT l70_38), (kT l70_39)])
@[go_sem] def l70_41 (_ : Unit) : KL := [kA 124 (.mv (.t 17)),
  kA 125 (.mv (.t 18)),
  kA 126 (.bin .geq (.t 124) (.t 125)),
  kB 8 (.mv (.t 126)) [0, 1, 2, 3, 8, 9, 14]]
@[go_sem] def l70_42 (_ : Unit) : KL := [kA 127 (.mv (.t 0)),
  kA 128 (.mv (.t 14)),
  kA 129 (.bin .add (.t 128) (cI 1)),
  kA 130 (.mv (.t 2)),
  kB 131 (.mv (.t 3)) [0, 1, 3, 8, 9, 14, 127, 129, 130, 131],
  kB 132 (.call (n_slices_pdqsortOrdered_int) [(.t 127), (.t 129), (.t 130), (.t 131)]) [0, 1, 3, 8, 9, 14]]
@[go_sem] def l70_43 (_ : Unit) : KL := [kA 133 (.mv (.t 14)),
  kB 2 (.mv (.t 133)) [0, 1, 2, 3, 8, 9]]
@[go_sem] def s70_44 (_ : Unit) : IR := (sQ [(kT l70_41), (kT l70_42), (kT l70_43)])
@[go_sem] def s70_45 (_ : Unit) : IR := (sQ [(kT l70_2), (tH s70_6), (tH s70_10), (tH s70_15), (kT l70_16), (tH s70_22), (tH s70_26), (tH s70_31), (kT l70_32), (kT l70_33), (kT l70_34), (kT l70_35), (kT l70_36), (.cond (.t 113) (tH s70_40) (tH s70_44))])
@[go_sem] def s70_46 (_ : Unit) : IR := (.block 1 (tH s70_45))
@[go_sem] def s70_47 (_ : Unit) : IR := (.loop (tH s70_46))
@[go_sem] def s70_48 (_ : Unit) : IR := (.block 0 (tH s70_47))
@[go_sem] def s70_49 (_ : Unit) : IR := (sQ [(kT l70_0), (kT l70_1), (tH s70_48)])
@[go_sem] def l49_0 (_ : Unit) : KL := [kA 3 (.mv (.t 0)),
  kA 4 (.len (.t 3)),
  kB 2 (.mv (.t 4)) [0, 2]]
@[go_sem] def l49_1 (_ : Unit) : KL := [kA 5 (.mv (.t 0)),
  kA 6 (.mv (.t 2)),
  kA 7 (.mv (.t 2)),
  kA 8 (.cvi .u64 (.t 7)),
  kB 9 (.call (n_math_bits_Len) [(.t 8)]) [5, 6, 9],
  kB 10 (.call (n_slices_pdqsortOrdered_int) [(.t 5), (cI 0), (.t 6), (.t 9)]) []]
@[go_sem] def s49_2 (_ : Unit) : IR := (sQ [(kT l49_0), (kT l49_1)])
@[go_sem] def l75_0 (_ : Unit) : KL := [kB 2 (.mv (.c (.str ⟨#[]⟩))) [0]]
@[go_sem] def l75_1 (_ : Unit) : KL := [kA 3 (.mv (.t 0)),
  kA 4 (.call (n_internal_strconv_FormatInt) [(.t 3), (.c (.int .i64 10))]),
  kB 2 (.mv (.t 4)) [2]]
@[go_sem] def s75_2 (_ : Unit) : IR := (sQ [(kT l75_0), (kT l75_1), .ret])
@[go_sem] def l63_0 (_ : Unit) : KL := [kB 2 (.mv (.c (.str ⟨#[]⟩))) [0]]
@[go_sem] def l63_1 (_ : Unit) : KL := [kA 3 (.mv (.t 0)),
  kA 4 (.call (n_internal_strconv_Itoa) [(.t 3)]),
  kB 2 (.mv (.t 4)) [2]]
@[go_sem] def s63_2 (_ : Unit) : IR := (sQ [(kT l63_0), (kT l63_1), .ret])
@[go_sem] def l62_0 (_ : Unit) : KL := [kB 2 (.mv (.c (.str ⟨#[]⟩))) [0]]
@[go_sem] def l62_1 (_ : Unit) : KL := [kB 3 (.mv (.c (.str ⟨#[]⟩))) [0, 3]]
@[go_sem] def l62_2 (_ : Unit) : KL := [kA 6 (.mv (.t 0)),
  kA 7 (.len (.t 6)),
  kB 8 (.mv (cI 0)) [3, 6, 7, 8]]
@[go_sem] def l62_3 (_ : Unit) : KL := [kB 9 (.bin .lss (.t 8) (.t 7)) [3, 6, 7, 8, 9]]
@[go_sem] def l62_4 (_ : Unit) : KL := [kA 10 (.iaddr (.t 6) (.t 8) 1),
  kA 11 (.load (.t 10) 1 false),
  kB 5 (.mv (.t 11)) [3, 5, 6, 7, 8]]
@[go_sem] def l62_5 (_ : Unit) : KL := [kA 12 (.mv (.t 3)),
  kA 13 (.mv (.t 5)),
  kA 14 (.call (n_strconv_Itoa) [(.t 13)]),
  kA 15 (.bin .add (.t 14) (.c (.str ⟨#[44]⟩))),
  kB 16 (.bin .add (.t 12) (.t 15)) [6, 7, 8, 16],
  kB 3 (.mv (.t 16)) [3, 6, 7, 8]]
@[go_sem] def s62_6 (_ : Unit) : IR := (sQ [(kT l62_4), (kT l62_5)])
@[go_sem] def s62_7 (_ : Unit) : IR := (.block 1 (tH s62_6))
@[go_sem] def l62_8 (_ : Unit) : KL := [kA 17 (.bin .add (.t 8) (cI 1)),
  kB 8 (.mv (.t 17)) [3, 6, 7, 8]]
@[go_sem] def s62_9 (_ : Unit) : IR := (sQ [(kT l62_3), (.cond (.t 9) .skip (.exit 0)), (tH s62_7), (kT l62_8)])
@[go_sem] def s62_10 (_ : Unit) : IR := (.loop (tH s62_9))
@[go_sem] def s62_11 (_ : Unit) : IR := (.block 0 (tH s62_10))
@[go_sem] def s62_12 (_ : Unit) : IR := (sQ [(kT l62_2), (tH s62_11)])
@[go_sem] def l62_13 (_ : Unit) : KL := [kA 18 (.mv (.t 3)),
  kB 2 (.mv (.t 18)) [2]]
@[go_sem] def s62_14 (_ : Unit) : IR := (sQ [(kT l62_0), (kT l62_1), (tH s62_12), (kT l62_13), .ret])
theorem c62 : compFn Tryd.prog [(0, [], [oS [0]]), (1, [], [oS [0, 3]]), (2, [], [oN, oN, oS [3, 6, 7, 8]]), (3, [], [oS [3, 6, 7, 8, 9]]), (4, [], [oN, oN, oS [3, 5, 6, 7, 8]]), (5, [], [oN, oN, oN, oN, oS [6, 7, 8, 16], oS [3, 6, 7, 8]]), (6, [], [oN, oS [3, 6, 7, 8]]), (7, [], [oN, oS [2]])] Tryd.f62 = some ⟨1, 19, [.t 2], (tH s62_14)⟩ := by kernel_rfl
theorem v_impl_numbersText (hl : vs.length = 1) (h : wpV Tryd.prog (tH s62_14) (postV [.t 2] RV) (envV vs) M) : VCall Tryd.prog n_impl_numbersText vs M RV :=
  vcall_of_wp (fun _ _ _ hl h => acall_of_wp mixed Tryd.func62 c62 (by kernel_rfl) hl h) hl h
@[go_sem] def l50_0 (_ : Unit) : KL := [kB 2 (.mv (.c (.sl none 0 0 true 0))) [0]]
@[go_sem] def l50_1 (_ : Unit) : KL := [kA 6 (.mv (.t 0)),
  kA 7 (.len (.t 6)),
  kB 8 (.bin .lss (.t 7) (.c (.int .i64 2))) [0, 8]]
@[go_sem] def l50_2 (_ : Unit) : KL := [kA 9 (.mv (.t 0)),
  kB 2 (.mv (.t 9)) [2]]
@[go_sem] def s50_3 (_ : Unit) : IR := (sQ [(kT l50_2), .ret])
@[go_sem] def s50_4 (_ : Unit) : IR := (sQ [(kT l50_1), (.cond (.t 8) (tH s50_3) .skip)])
@[go_sem] def l50_5 (_ : Unit) : KL := [kB 3 (.mv (cI 1)) [0, 3]]
@[go_sem] def l50_6 (_ : Unit) : KL := [kA 10 (.mv (.t 3)),
  kA 11 (.mv (.t 0)),
  kA 12 (.len (.t 11)),
  kB 13 (.bin .lss (.t 10) (.t 12)) [0, 3, 13]]
@[go_sem] def s50_7 (_ : Unit) : IR := (sQ [(kT l50_6), (.cond (.t 13) .skip (.exit 0))])
@[go_sem] def l50_8 : Nat → GOp
  | 0 => ⟨(some 16), .mv (.t 0), none⟩
  | 1 => ⟨(some 17), .mv (.t 3), none⟩
  | 2 => ⟨(some 18), .iaddr (.t 16) (.t 17) 1, none⟩
  | 3 => ⟨(some 19), .load (.t 18) 1 false, none⟩
  | 4 => ⟨(some 20), .mv (.t 0), none⟩
  | 5 => ⟨(some 21), .mv (.t 3), none⟩
  | 6 => ⟨(some 22), .bin .sub (.t 21) (cI 1), none⟩
  | 7 => ⟨(some 23), .iaddr (.t 20) (.t 22) 1, none⟩
  | 8 => ⟨(some 24), .load (.t 23) 1 false, none⟩
  | 9 => ⟨(some 25), .bin .eql (.t 19) (.t 24), none⟩
  | _ => ⟨none, .mkmap, none⟩
@[go_sem] def l50_9 (_ : Unit) : KL := [kA 26 (.mv (.t 0)),
  kA 27 (.mv (.t 3)),
  kA 28 (.slc 1 (.t 26) (some (.t 27)) none none),
  kB 4 (.mv (.t 28)) [0, 3, 4]]
@[go_sem] def l50_10 (_ : Unit) : KL := [kB 5 (.mv (cI 1)) [0, 3, 4, 5]]
@[go_sem] def l50_11 (_ : Unit) : KL := [kA 29 (.mv (.t 5)),
  kA 30 (.mv (.t 4)),
  kA 31 (.len (.t 30)),
  kB 32 (.bin .lss (.t 29) (.t 31)) [0, 3, 4, 5, 32]]
@[go_sem] def s50_12 (_ : Unit) : IR := (sQ [(kT l50_11), (.cond (.t 32) .skip (.exit 2))])
@[go_sem] def l50_13 : Nat → GOp
  | 0 => ⟨(some 35), .mv (.t 4), none⟩
  | 1 => ⟨(some 36), .mv (.t 5), none⟩
  | 2 => ⟨(some 37), .iaddr (.t 35) (.t 36) 1, none⟩
  | 3 => ⟨(some 38), .load (.t 37) 1 false, none⟩
  | 4 => ⟨(some 39), .mv (.t 4), none⟩
  | 5 => ⟨(some 40), .mv (.t 5), none⟩
  | 6 => ⟨(some 41), .bin .sub (.t 40) (cI 1), none⟩
  | 7 => ⟨(some 42), .iaddr (.t 39) (.t 41) 1, none⟩
  | 8 => ⟨(some 43), .load (.t 42) 1 false, none⟩
  | 9 => ⟨(some 44), .bin .neq (.t 38) (.t 43), none⟩
  | _ => ⟨none, .mkmap, none⟩
@[go_sem] def l50_14 (_ : Unit) : KL := [kA 45 (.mv (.t 0)),
  kA 46 (.mv (.t 3)),
  kA 47 (.mv (.t 4)),
  kA 48 (.mv (.t 5)),
  kB 49 (.iaddr (.t 47) (.t 48) 1) [0, 3, 4, 5, 45, 46, 49],
  kA 50 (.load (.t 49) 1 false),
  kA 51 (.iaddr (.t 45) (.t 46) 1),
  (⟨none, .store (.t 51) 1 (.t 50), none⟩, (some [0, 3, 4, 5]))]
@[go_sem] def l50_15 (_ : Unit) : KL := [kA 52 (.mv (.t 3)),
  kA 53 (.bin .add (.t 52) (cI 1)),
  kB 3 (.mv (.t 53)) [0, 3, 4, 5]]
@[go_sem] def s50_16 (_ : Unit) : IR := (sQ [(kT l50_14), (kT l50_15)])
@[go_sem] def s50_17 (_ : Unit) : IR := (sQ [(.kd (oF l50_13 10) [(0, []), (1, []), (2, []), (3, []), (4, []), (5, []), (6, []), (7, []), (8, []), (9, [])] [0, 3, 4, 5, 44]), (.cond (.t 44) (tH s50_16) .skip)])
@[go_sem] def s50_18 (_ : Unit) : IR := (.block 3 (tH s50_17))
@[go_sem] def l50_19 (_ : Unit) : KL := [kA 33 (.mv (.t 5)),
  kA 34 (.bin .add (.t 33) (cI 1)),
  kB 5 (.mv (.t 34)) [0, 3, 4, 5]]
@[go_sem] def s50_20 (_ : Unit) : IR := (sQ [(tH s50_12), (tH s50_18), (kT l50_19)])
@[go_sem] def s50_21 (_ : Unit) : IR := (.loop (tH s50_20))
@[go_sem] def s50_22 (_ : Unit) : IR := (.block 2 (tH s50_21))
@[go_sem] def s50_23 (_ : Unit) : IR := (sQ [(kT l50_10), (tH s50_22)])
@[go_sem] def l50_24 (_ : Unit) : KL := [kA 54 (.mv (.t 0)),
  kA 55 (.mv (.t 3)),
  kA 56 (.slc 1 (.t 54) (some (.t 55)) none none),
  (⟨none, .clear [(.int .i64 0)] (.t 56), none⟩, (some [0, 3]))]
@[go_sem] def l50_25 (_ : Unit) : KL := [kA 57 (.mv (.t 0)),
  kA 58 (.mv (.t 3)),
  kA 59 (.slc 1 (.t 57) none (some (.t 58)) none),
  kB 2 (.mv (.t 59)) [2]]
@[go_sem] def s50_26 (_ : Unit) : IR := (sQ [(kT l50_9), (tH s50_23), (kT l50_24), (kT l50_25), .ret])
@[go_sem] def s50_27 (_ : Unit) : IR := (sQ [(.kd (oF l50_8 10) [(0, []), (1, []), (2, []), (3, []), (4, []), (5, []), (6, []), (7, []), (8, []), (9, [])] [0, 3, 25]), (.cond (.t 25) (tH s50_26) .skip)])
@[go_sem] def s50_28 (_ : Unit) : IR := (.block 1 (tH s50_27))
@[go_sem] def l50_29 (_ : Unit) : KL := [kA 14 (.mv (.t 3)),
  kA 15 (.bin .add (.t 14) (cI 1)),
  kB 3 (.mv (.t 15)) [0, 3]]
@[go_sem] def s50_30 (_ : Unit) : IR := (sQ [(tH s50_7), (tH s50_28), (kT l50_29)])
@[go_sem] def s50_31 (_ : Unit) : IR := (.loop (tH s50_30))
@[go_sem] def s50_32 (_ : Unit) : IR := (.block 0 (tH s50_31))
@[go_sem] def s50_33 (_ : Unit) : IR := (sQ [(kT l50_5), (tH s50_32)])
@[go_sem] def l50_34 (_ : Unit) : KL := [kA 60 (.mv (.t 0)),
  kB 2 (.mv (.t 60)) [2]]
@[go_sem] def s50_35 (_ : Unit) : IR := (sQ [(kT l50_0), (tH s50_4), (tH s50_33), (kT l50_34), .ret])
theorem c50 : compFn Tryd.prog [(0, [], [oS [0]]), (1, [], [oN, oN, oS [0, 8]]), (2, [], [oN, oS [2]]), (3, [], [oS [0, 3]]), (4, [], [oN, oN, oN, oS [0, 3, 13]]), (6, [(0, []), (1, []), (2, []), (3, []), (4, []), (5, []), (6, []), (7, []), (8, []), (9, [])], [oS [0, 3, 25]]), (7, [], [oN, oN, oN, oS [0, 3, 4]]), (8, [], [oS [0, 3, 4, 5]]), (9, [], [oN, oN, oN, oS [0, 3, 4, 5, 32]]), (11, [(0, []), (1, []), (2, []), (3, []), (4, []), (5, []), (6, []), (7, []), (8, []), (9, [])], [oS [0, 3, 4, 5, 44]]), (12, [], [oN, oN, oN, oN, oS [0, 3, 4, 5, 45, 46, 49], oN, oN, oS [0, 3, 4, 5]]), (13, [], [oN, oN, oS [0, 3, 4, 5]]), (10, [], [oN, oN, oS [0, 3, 4, 5]]), (14, [], [oN, oN, oN, oS [0, 3]]), (15, [], [oN, oN, oN, oS [2]]), (5, [], [oN, oN, oS [0, 3]]), (16, [], [oN, oS [2]])] Tryd.f50 = some ⟨1, 61, [.t 2], (tH s50_35)⟩ := by kernel_rfl
theorem v_slices_Compact_Sint_int (hl : vs.length = 1) (h : wpV Tryd.prog (tH s50_35) (postV [.t 2] RV) (envV vs) M) : VCall Tryd.prog n_slices_Compact_Sint_int vs M RV :=
  vcall_of_wp (fun _ _ _ hl h => acall_of_wp mixed Tryd.func50 c50 (by kernel_rfl) hl h) hl h
@[go_sem] def l41_0 (_ : Unit) : KL := [kB 4 (.mv (.c (.bool false))) [0, 1]]
@[go_sem] def l41_1 (_ : Unit) : KL := [kA 6 (.mv (.t 0)),
  kA 7 (.len (.t 6)),
  kA 8 (.mv (.t 1)),
  kA 9 (.len (.t 8)),
  kB 10 (.bin .neq (.t 7) (.t 9)) [0, 1, 10]]
@[go_sem] def l41_2 (_ : Unit) : KL := [kB 4 (.mv (.c (.bool false))) [4]]
@[go_sem] def s41_3 (_ : Unit) : IR := (sQ [(kT l41_2), .ret])
@[go_sem] def s41_4 (_ : Unit) : IR := (sQ [(kT l41_1), (.cond (.t 10) (tH s41_3) .skip)])
@[go_sem] def l41_5 (_ : Unit) : KL := [kA 11 (.mv (.t 0)),
  kA 12 (.len (.t 11)),
  kB 13 (.mv (cI 0)) [0, 1, 12, 13]]
@[go_sem] def l41_6 (_ : Unit) : KL := [kB 14 (.bin .lss (.t 13) (.t 12)) [0, 1, 12, 13, 14]]
@[go_sem] def l41_7 (_ : Unit) : KL := [kA 15 (.mv (.t 13)),
  kB 5 (.mv (.t 15)) [0, 1, 5, 12, 13]]
@[go_sem] def l41_8 : Nat → GOp
  | 0 => ⟨(some 16), .mv (.t 0), none⟩
  | 1 => ⟨(some 17), .mv (.t 5), none⟩
  | 2 => ⟨(some 18), .iaddr (.t 16) (.t 17) 1, none⟩
  | 3 => ⟨(some 19), .load (.t 18) 1 false, none⟩
  | 4 => ⟨(some 20), .mv (.t 1), none⟩
  | 5 => ⟨(some 21), .mv (.t 5), none⟩
  | 6 => ⟨(some 22), .iaddr (.t 20) (.t 21) 1, none⟩
  | 7 => ⟨(some 23), .load (.t 22) 1 false, none⟩
  | 8 => ⟨(some 24), .bin .neq (.t 19) (.t 23), none⟩
  | _ => ⟨none, .mkmap, none⟩
@[go_sem] def l41_9 (_ : Unit) : KL := [kB 4 (.mv (.c (.bool false))) [4]]
@[go_sem] def s41_10 (_ : Unit) : IR := (sQ [(kT l41_9), .ret])
@[go_sem] def s41_11 (_ : Unit) : IR := (sQ [(kT l41_7), (.kd (oF l41_8 9) [(0, []), (1, []), (2, []), (3, []), (4, []), (5, []), (6, []), (7, []), (8, [])] [0, 1, 12, 13, 24]), (.cond (.t 24) (tH s41_10) .skip)])
@[go_sem] def s41_12 (_ : Unit) : IR := (.block 1 (tH s41_11))
@[go_sem] def l41_13 (_ : Unit) : KL := [kA 25 (.bin .add (.t 13) (cI 1)),
  kB 13 (.mv (.t 25)) [0, 1, 12, 13]]
@[go_sem] def s41_14 (_ : Unit) : IR := (sQ [(kT l41_6), (.cond (.t 14) .skip (.exit 0)), (tH s41_12), (kT l41_13)])
@[go_sem] def s41_15 (_ : Unit) : IR := (.loop (tH s41_14))
@[go_sem] def s41_16 (_ : Unit) : IR := (.block 0 (tH s41_15))
@[go_sem] def s41_17 (_ : Unit) : IR := (sQ [(kT l41_5), (tH s41_16)])
@[go_sem] def l41_18 (_ : Unit) : KL := [kB 4 (.mv (.c (.bool true))) [4]]
@[go_sem] def s41_19 (_ : Unit) : IR := (sQ [(kT l41_0), (tH s41_4), (tH s41_17), (kT l41_18), .ret])
theorem c41 : compFn Tryd.prog [(0, [], [oS [0, 1]]), (1, [], [oN, oN, oN, oN, oS [0, 1, 10]]), (2, [], [oS [4]]), (3, [], [oN, oN, oS [0, 1, 12, 13]]), (4, [], [oS [0, 1, 12, 13, 14]]), (5, [], [oN, oS [0, 1, 5, 12, 13]]), (6, [(0, []), (1, []), (2, []), (3, []), (4, []), (5, []), (6, []), (7, []), (8, [])], [oS [0, 1, 12, 13, 24]]), (7, [], [oS [4]]), (8, [], [oN, oS [0, 1, 12, 13]]), (9, [], [oS [4]])] Tryd.f41 = some ⟨2, 26, [.t 4], (tH s41_19)⟩ := by kernel_rfl
theorem v_slices_Equal_Sint_int (hl : vs.length = 2) (h : wpV Tryd.prog (tH s41_19) (postV [.t 4] RV) (envV vs) M) : VCall Tryd.prog n_slices_Equal_Sint_int vs M RV :=
  vcall_of_wp (fun _ _ _ hl h => acall_of_wp mixed Tryd.func41 c41 (by kernel_rfl) hl h) hl h
@[go_sem] def l33_0 (_ : Unit) : KL := [kA 1 (.box (.t 0)),
  kB 2 (.mv (.c (.sl none 0 0 true 0))) [1]]
@[go_sem] def l33_1 (_ : Unit) : KL := [kA 14 (.faddr (.t 1) 0),
  kA 15 (.load (.t 14) 1 false),
  kA 16 (.len (.t 15)),
  kB 3 (.mv (.t 16)) [1, 3]]
@[go_sem] def l33_2 (_ : Unit) : KL := [kA 17 (.mv (.t 3)),
  kA 18 (.mks [(.int .i64 0)] 8 (.t 17)),
  kB 4 (.mv (.t 18)) [1, 3, 4]]
@[go_sem] def l33_3 (_ : Unit) : KL := [kA 19 (.mkmap),
  kB 5 (.mv (.t 19)) [1, 3, 4, 5]]
@[go_sem] def l33_4 (_ : Unit) : KL := [kA 20 (.mv (.t 3)),
  kA 21 (.mks [(.int .i64 0)] 8 (.t 20)),
  kB 6 (.mv (.t 21)) [1, 3, 4, 5, 6]]
@[go_sem] def l33_5 (_ : Unit) : KL := [kA 22 (.mv (.t 3)),
  kB 23 (.mv (cI 0)) [1, 3, 4, 5, 6, 22, 23]]
@[go_sem] def l33_6 (_ : Unit) : KL := [kB 24 (.bin .lss (.t 23) (.t 22)) [1, 3, 4, 5, 6, 22, 23, 24]]
@[go_sem] def l33_7 (_ : Unit) : KL := [kA 25 (.mv (.t 23)),
  kB 7 (.mv (.t 25)) [1, 3, 4, 5, 6, 7, 22, 23]]
@[go_sem] def l33_8 (_ : Unit) : KL := [kB 8 (.mv (.c (.sl none 0 0 true 0))) [1, 3, 4, 5, 6, 7, 8, 22, 23]]
@[go_sem] def l33_9 (_ : Unit) : KL := [kA 26 (.faddr (.t 1) 2),
  kA 27 (.load (.t 26) 1 false),
  kA 28 (.mv (.t 7)),
  kA 29 (.iaddr (.t 27) (.t 28) 1),
  kB 30 (.load (.t 29) 1 false) [1, 3, 4, 5, 6, 7, 8, 22, 23, 30],
  kA 31 (.len (.t 30)),
  kB 32 (.mv (cI 0)) [1, 3, 4, 5, 6, 7, 8, 22, 23, 30, 31, 32]]
@[go_sem] def l33_10 (_ : Unit) : KL := [kB 33 (.bin .lss (.t 32) (.t 31)) [1, 3, 4, 5, 6, 7, 8, 22, 23, 30, 31, 32, 33]]
@[go_sem] def l33_11 (_ : Unit) : KL := [kA 34 (.iaddr (.t 30) (.t 32) 1),
  kA 35 (.load (.t 34) 1 false),
  kB 10 (.mv (.t 35)) [1, 3, 4, 5, 6, 7, 8, 10, 22, 23, 30, 31, 32]]
@[go_sem] def l33_12 (_ : Unit) : KL := [kA 36 (.mv (.t 8)),
  kA 37 (.mv (.t 4)),
  kA 38 (.mv (.t 10)),
  kA 39 (.iaddr (.t 37) (.t 38) 1),
  kB 40 (.load (.t 39) 1 false) [1, 3, 4, 5, 6, 7, 22, 23, 30, 31, 32, 36, 40],
  kA 41 (.bslc 1 1 [(.int .i64 0)] [(0, (.t 40))]),
  kA 42 (.app 1 8 (.t 36) (.t 41)),
  kB 8 (.mv (.t 42)) [1, 3, 4, 5, 6, 7, 8, 22, 23, 30, 31, 32]]
@[go_sem] def s33_13 (_ : Unit) : IR := (sQ [(kT l33_11), (kT l33_12)])
@[go_sem] def s33_14 (_ : Unit) : IR := (.block 5 (tH s33_13))
@[go_sem] def l33_15 (_ : Unit) : KL := [kA 43 (.bin .add (.t 32) (cI 1)),
  kB 32 (.mv (.t 43)) [1, 3, 4, 5, 6, 7, 8, 22, 23, 30, 31, 32]]
@[go_sem] def s33_16 (_ : Unit) : IR := (sQ [(kT l33_10), (.cond (.t 33) .skip (.exit 4)), (tH s33_14), (kT l33_15)])
@[go_sem] def s33_17 (_ : Unit) : IR := (.loop (tH s33_16))
@[go_sem] def s33_18 (_ : Unit) : IR := (.block 4 (tH s33_17))
@[go_sem] def s33_19 (_ : Unit) : IR := (sQ [(kT l33_9), (tH s33_18)])
@[go_sem] def l33_20 (_ : Unit) : KL := [kA 44 (.mv (.t 8)),
  kB 45 (.call (n_slices_Sort_Sint_int) [(.t 44)]) [1, 3, 4, 5, 6, 7, 8, 22, 23]]
@[go_sem] def l33_21 : Nat → GOp
  | 0 => ⟨(some 46), .faddr (.t 1) 0, none⟩
  | 1 => ⟨(some 47), .load (.t 46) 1 false, none⟩
  | 2 => ⟨(some 48), .mv (.t 7), none⟩
  | 3 => ⟨(some 49), .iaddr (.t 47) (.t 48) 1, none⟩
  | 4 => ⟨(some 50), .load (.t 49) 1 false, none⟩
  | 5 => ⟨(some 51), .call (n_impl_numbersText) [(.t 50)], none⟩
  | 6 => ⟨(some 52), .bin .add (.t 51) (.c (.str ⟨#[59]⟩)), none⟩
  | 7 => ⟨(some 53), .mv (.t 4), none⟩
  | 8 => ⟨(some 54), .mv (.t 7), none⟩
  | 9 => ⟨(some 55), .iaddr (.t 53) (.t 54) 1, none⟩
  | 10 => ⟨(some 56), .load (.t 55) 1 false, none⟩
  | 11 => ⟨(some 57), .call (n_strconv_Itoa) [(.t 56)], none⟩
  | 12 => ⟨(some 58), .bin .add (.t 52) (.t 57), none⟩
  | 13 => ⟨(some 59), .bin .add (.t 58) (.c (.str ⟨#[59]⟩)), none⟩
  | 14 => ⟨(some 60), .mv (.t 8), none⟩
  | 15 => ⟨(some 61), .call (n_slices_Compact_Sint_int) [(.t 60)], none⟩
  | 16 => ⟨(some 62), .call (n_impl_numbersText) [(.t 61)], none⟩
  | 17 => ⟨(some 63), .bin .add (.t 59) (.t 62), none⟩
  | 18 => ⟨(some 11), .mv (.t 63), none⟩
  | _ => ⟨none, .mkmap, none⟩
@[go_sem] def l33_22 (_ : Unit) : KL := [kA 65 (.mv (.t 5)),
  kA 66 (.mv (.t 11)),
  kA 67 (.lookup .s (.int .i64 0) true (.t 65) (.t 66)),
  kA 64 (.mv (.t 67)),
  kB 68 (.ext (.t 64) 0) [1, 3, 4, 5, 6, 7, 11, 22, 23, 64, 68],
  kA 69 (.ext (.t 64) 1),
  kA 12 (.mv (.t 68)),
  kB 13 (.mv (.t 69)) [1, 3, 4, 5, 6, 7, 11, 13, 22, 23]]
@[go_sem] def l33_23 (_ : Unit) : KL := [kA 70 (.mv (.t 13)),
  kB 71 (.un .not (.t 70)) [1, 3, 4, 5, 6, 7, 11, 22, 23, 71]]
@[go_sem] def l33_24 (_ : Unit) : KL := [kA 72 (.mv (.t 5)),
  kA 73 (.mv (.t 11)),
  kA 74 (.mv (.t 7)),
  (⟨none, .mapset .s (.t 72) (.t 73) (.t 74), none⟩, (some [1, 3, 4, 5, 6, 7, 11, 22, 23]))]
@[go_sem] def s33_25 (_ : Unit) : IR := (sQ [(kT l33_22), (kT l33_23), (.cond (.t 71) (kT l33_24) .skip)])
@[go_sem] def l33_26 (_ : Unit) : KL := [kA 75 (.mv (.t 6)),
  kA 76 (.mv (.t 7)),
  kA 77 (.mv (.t 5)),
  kA 78 (.mv (.t 11)),
  kB 79 (.lookup .s (.int .i64 0) false (.t 77) (.t 78)) [1, 3, 4, 5, 6, 22, 23, 75, 76, 79],
  kA 80 (.iaddr (.t 75) (.t 76) 1),
  (⟨none, .store (.t 80) 1 (.t 79), none⟩, (some [1, 3, 4, 5, 6, 22, 23]))]
@[go_sem] def s33_27 (_ : Unit) : IR := (sQ [(kT l33_7), (kT l33_8), (tH s33_19), (kT l33_20), (.kd (oF l33_21 19) [(0, []), (1, []), (2, []), (3, []), (4, []), (7, []), (8, []), (9, []), (10, []), (14, []), (5, [10]), (6, []), (11, []), (12, []), (13, []), (15, []), (16, []), (17, []), (18, [])] [1, 3, 4, 5, 6, 7, 11, 22, 23]), (tH s33_25), (kT l33_26)])
@[go_sem] def s33_28 (_ : Unit) : IR := (.block 3 (tH s33_27))
@[go_sem] def l33_29 (_ : Unit) : KL := [kA 81 (.bin .add (.t 23) (cI 1)),
  kB 23 (.mv (.t 81)) [1, 3, 4, 5, 6, 22, 23]]
@[go_sem] def s33_30 (_ : Unit) : IR := (sQ [(kT l33_6), (.cond (.t 24) .skip (.exit 2)), (tH s33_28), (kT l33_29)])
@[go_sem] def s33_31 (_ : Unit) : IR := (.loop (tH s33_30))
@[go_sem] def s33_32 (_ : Unit) : IR := (.block 2 (tH s33_31))
@[go_sem] def s33_33 (_ : Unit) : IR := (sQ [(kT l33_5), (tH s33_32)])
@[go_sem] def l33_34 (_ : Unit) : KL := [kA 82 (.mv (.t 6)),
  kA 83 (.mv (.t 4)),
  kB 84 (.call (n_slices_Equal_Sint_int) [(.t 82), (.t 83)]) [1, 3, 4, 6, 84]]
@[go_sem] def l33_35 (_ : Unit) : KL := [kA 85 (.mv (.t 4)),
  kB 2 (.mv (.t 85)) [2]]
@[go_sem] def s33_36 (_ : Unit) : IR := (sQ [(kT l33_35), .ret])
@[go_sem] def s33_37 (_ : Unit) : IR := (sQ [(kT l33_34), (.cond (.t 84) (tH s33_36) .skip)])
@[go_sem] def l33_38 (_ : Unit) : KL := [kA 86 (.mv (.t 6)),
  kB 4 (.mv (.t 86)) [1, 3, 4]]
@[go_sem] def s33_39 (_ : Unit) : IR := (sQ [(kT l33_3), (kT l33_4), (tH s33_33), (tH s33_37), (kT l33_38)])
@[go_sem] def s33_40 (_ : Unit) : IR := (.block 1 (tH s33_39))
@[go_sem] def s33_41 (_ : Unit) : IR := (.loop (tH s33_40))
@[go_sem] def s33_42 (_ : Unit) : IR := (.block 0 (tH s33_41))
@[go_sem] def s33_43 (_ : Unit) : IR := (sQ [(kT l33_0), (kT l33_1), (kT l33_2), (tH s33_42)])
theorem c33 : compFn Tryd.prog [(0, [], [oN, oS [1]]), (1, [], [oN, oN, oN, oS [1, 3]]), (2, [], [oN, oN, oS [1, 3, 4]]), (3, [], [oN, oS [1, 3, 4, 5]]), (4, [], [oN, oN, oS [1, 3, 4, 5, 6]]), (5, [], [oN, oS [1, 3, 4, 5, 6, 22, 23]]), (6, [], [oS [1, 3, 4, 5, 6, 22, 23, 24]]), (7, [], [oN, oS [1, 3, 4, 5, 6, 7, 22, 23]]), (8, [], [oS [1, 3, 4, 5, 6, 7, 8, 22, 23]]), (9, [], [oN, oN, oN, oN, oS [1, 3, 4, 5, 6, 7, 8, 22, 23, 30], oN, oS [1, 3, 4, 5, 6, 7, 8, 22, 23, 30, 31, 32]]), (10, [], [oS [1, 3, 4, 5, 6, 7, 8, 22, 23, 30, 31, 32, 33]]), (11, [], [oN, oN, oS [1, 3, 4, 5, 6, 7, 8, 10, 22, 23, 30, 31, 32]]), (12, [], [oN, oN, oN, oN, oS [1, 3, 4, 5, 6, 7, 22, 23, 30, 31, 32, 36, 40], oN, oN, oS [1, 3, 4, 5, 6, 7, 8, 22, 23, 30, 31, 32]]), (13, [], [oN, oS [1, 3, 4, 5, 6, 7, 8, 22, 23, 30, 31, 32]]), (14, [], [oN, oS [1, 3, 4, 5, 6, 7, 8, 22, 23]]), (15, [(0, []), (1, []), (2, []), (3, []), (4, []), (7, []), (8, []), (9, []), (10, []), (14, []), (5, [10]), (6, []), (11, []), (12, []), (13, []), (15, []), (16, []), (17, []), (18, [])], [oS [1, 3, 4, 5, 6, 7, 11, 22, 23]]), (16, [], [oN, oN, oN, oN, oS [1, 3, 4, 5, 6, 7, 11, 22, 23, 64, 68], oN, oN, oS [1, 3, 4, 5, 6, 7, 11, 13, 22, 23]]), (17, [], [oN, oS [1, 3, 4, 5, 6, 7, 11, 22, 23, 71]]), (18, [], [oN, oN, oN, oS [1, 3, 4, 5, 6, 7, 11, 22, 23]]), (19, [], [oN, oN, oN, oN, oS [1, 3, 4, 5, 6, 22, 23, 75, 76, 79], oN, oS [1, 3, 4, 5, 6, 22, 23]]), (20, [], [oN, oS [1, 3, 4, 5, 6, 22, 23]]), (21, [], [oN, oN, oS [1, 3, 4, 6, 84]]), (22, [], [oN, oS [2]]), (23, [], [oN, oS [1, 3, 4]])] Tryd.f33 = some ⟨1, 87, [.t 2], (tH s33_43)⟩ := by kernel_rfl
theorem v_impl_alike (hl : vs.length = 1) (h : wpV Tryd.prog (tH s33_43) (postV [.t 2] RV) (envV vs) M) : VCall Tryd.prog n_impl_alike vs M RV :=
  vcall_of_wp (fun _ _ _ hl h => acall_of_wp mixed Tryd.func33 c33 (by kernel_rfl) hl h) hl h
@[go_sem] def l32_0 (_ : Unit) : KL := [kB 2 (.mv (.c (.sl none 0 0 true 0))) [0]]
@[go_sem] def l32_1 (_ : Unit) : KL := [kA 4 (.mv (.t 0)),
  kA 5 (.len (.t 4)),
  kB 6 (.bin .eql (.t 5) (cI 0)) [0, 6]]
@[go_sem] def l32_2 (_ : Unit) : KL := [kB 2 (.mv (.c (.sl none 0 0 true 0))) [2]]
@[go_sem] def s32_3 (_ : Unit) : IR := (sQ [(kT l32_2), .ret])
@[go_sem] def s32_4 (_ : Unit) : IR := (sQ [(kT l32_1), (.cond (.t 6) (tH s32_3) .skip)])
@[go_sem] def l32_5 (_ : Unit) : KL := [kA 7 (.mv (.t 0)),
  kA 8 (.len (.t 7)),
  kA 9 (.mks [(.int .i64 0)] 8 (.t 8)),
  kB 3 (.mv (.t 9)) [0, 3]]
@[go_sem] def l32_6 (_ : Unit) : KL := [kA 10 (.mv (.t 3)),
  kA 11 (.mv (.t 0)),
  kB 12 (.copy 1 (.t 10) (.t 11)) [3]]
@[go_sem] def l32_7 (_ : Unit) : KL := [kA 13 (.mv (.t 3)),
  kB 2 (.mv (.t 13)) [2]]
@[go_sem] def s32_8 (_ : Unit) : IR := (sQ [(kT l32_0), (tH s32_4), (kT l32_5), (kT l32_6), (kT l32_7), .ret])
theorem c32 : compFn Tryd.prog [(0, [], [oS [0]]), (1, [], [oN, oN, oS [0, 6]]), (2, [], [oS [2]]), (3, [], [oN, oN, oN, oS [0, 3]]), (4, [], [oN, oN, oS [3]]), (5, [], [oN, oS [2]])] Tryd.f32 = some ⟨1, 14, [.t 2], (tH s32_8)⟩ := by kernel_rfl
theorem v_impl_clone_int (hl : vs.length = 1) (h : wpV Tryd.prog (tH s32_8) (postV [.t 2] RV) (envV vs) M) : VCall Tryd.prog n_impl_clone_int vs M RV :=
  vcall_of_wp (fun _ _ _ hl h => acall_of_wp mixed Tryd.func32 c32 (by kernel_rfl) hl h) hl h
@[go_sem] def l51_0 (_ : Unit) : KL := [kB 2 (.mv (.c (.sl none 0 0 true 0))) [0]]
@[go_sem] def l51_1 (_ : Unit) : KL := [kA 4 (.mv (.t 0)),
  kA 5 (.len (.t 4)),
  kB 6 (.bin .eql (.t 5) (cI 0)) [0, 6]]
@[go_sem] def l51_2 (_ : Unit) : KL := [kB 2 (.mv (.c (.sl none 0 0 true 0))) [2]]
@[go_sem] def s51_3 (_ : Unit) : IR := (sQ [(kT l51_2), .ret])
@[go_sem] def s51_4 (_ : Unit) : IR := (sQ [(kT l51_1), (.cond (.t 6) (tH s51_3) .skip)])
@[go_sem] def l51_5 (_ : Unit) : KL := [kA 7 (.mv (.t 0)),
  kA 8 (.len (.t 7)),
  kA 9 (.mks [(.sl none 0 0 true 0)] 24 (.t 8)),
  kB 3 (.mv (.t 9)) [0, 3]]
@[go_sem] def l51_6 (_ : Unit) : KL := [kA 10 (.mv (.t 3)),
  kA 11 (.mv (.t 0)),
  kB 12 (.copy 1 (.t 10) (.t 11)) [3]]
@[go_sem] def l51_7 (_ : Unit) : KL := [kA 13 (.mv (.t 3)),
  kB 2 (.mv (.t 13)) [2]]
@[go_sem] def s51_8 (_ : Unit) : IR := (sQ [(kT l51_0), (tH s51_4), (kT l51_5), (kT l51_6), (kT l51_7), .ret])
theorem c51 : compFn Tryd.prog [(0, [], [oS [0]]), (1, [], [oN, oN, oS [0, 6]]), (2, [], [oS [2]]), (3, [], [oN, oN, oN, oS [0, 3]]), (4, [], [oN, oN, oS [3]]), (5, [], [oN, oS [2]])] Tryd.f51 = some ⟨1, 14, [.t 2], (tH s51_8)⟩ := by kernel_rfl
theorem v_impl_clone_Sint (hl : vs.length = 1) (h : wpV Tryd.prog (tH s51_8) (postV [.t 2] RV) (envV vs) M) : VCall Tryd.prog n_impl_clone_Sint vs M RV :=
  vcall_of_wp (fun _ _ _ hl h => acall_of_wp mixed Tryd.func51 c51 (by kernel_rfl) hl h) hl h
@[go_sem] def l24_0 (_ : Unit) : KL := [kA 2 (.box (.t 0)),
  kB 4 (.alloc [(.sl none 0 0 true 0), (.int .i64 0), (.sl none 0 0 true 0)]) [1, 2, 4]]
@[go_sem] def l24_1 (_ : Unit) : KL := [kA 15 (.load (.t 2) 3 true),
  kA 16 (.mv (.t 1)),
  kA 17 (.call (n_impl_GraphValid) [(.t 15), (.t 16)]),
  kB 18 (.un .not (.t 17)) [2, 4, 18]]
@[go_sem] def l24_2 (_ : Unit) : KL := [kA 19 (.bld [(.sl none 0 0 true 0), (.int .i64 0), (.sl none 0 0 true 0)] []),
  (⟨none, .store (.t 4) 3 (.t 19), none⟩, (some [4]))]
@[go_sem] def s24_3 (_ : Unit) : IR := (sQ [(kT l24_2), .ret])
@[go_sem] def s24_4 (_ : Unit) : IR := (sQ [(kT l24_1), (.cond (.t 18) (tH s24_3) .skip)])
@[go_sem] def l24_5 (_ : Unit) : KL := [kA 20 (.load (.t 2) 3 true),
  kA 21 (.call (n_impl_alike) [(.t 20)]),
  kB 5 (.mv (.t 21)) [2, 4, 5]]
@[go_sem] def l24_6 (_ : Unit) : KL := [kA 22 (.mkmap),
  kB 6 (.mv (.t 22)) [2, 4, 5, 6]]
@[go_sem] def l24_7 (_ : Unit) : KL := [kA 23 (.mv (.t 5)),
  kA 24 (.len (.t 23)),
  kB 25 (.mv (cI 0)) [2, 4, 5, 6, 23, 24, 25]]
@[go_sem] def l24_8 (_ : Unit) : KL := [kB 26 (.bin .lss (.t 25) (.t 24)) [2, 4, 5, 6, 23, 24, 25, 26]]
@[go_sem] def l24_9 (_ : Unit) : KL := [kA 27 (.mv (.t 25)),
  kA 28 (.iaddr (.t 23) (.t 25) 1),
  kA 29 (.load (.t 28) 1 false),
  kA 7 (.mv (.t 27)),
  kB 8 (.mv (.t 29)) [2, 4, 5, 6, 7, 8, 23, 24, 25]]
@[go_sem] def l24_10 (_ : Unit) : KL := [kA 30 (.mv (.t 7)),
  kA 31 (.mv (.t 8)),
  kB 32 (.bin .eql (.t 30) (.t 31)) [2, 4, 5, 6, 7, 23, 24, 25, 32]]
@[go_sem] def l24_11 (_ : Unit) : KL := [kA 33 (.mv (.t 6)),
  kA 34 (.mv (.t 7)),
  kA 35 (.mv (.t 6)),
  kA 36 (.mlen (.t 35)),
  (⟨none, .mapset .i (.t 33) (.t 34) (.t 36), none⟩, (some [2, 4, 5, 6, 23, 24, 25]))]
@[go_sem] def s24_12 (_ : Unit) : IR := (sQ [(kT l24_9), (kT l24_10), (.cond (.t 32) (kT l24_11) .skip)])
@[go_sem] def s24_13 (_ : Unit) : IR := (.block 1 (tH s24_12))
@[go_sem] def l24_14 (_ : Unit) : KL := [kA 37 (.bin .add (.t 25) (cI 1)),
  kB 25 (.mv (.t 37)) [2, 4, 5, 6, 23, 24, 25]]
@[go_sem] def s24_15 (_ : Unit) : IR := (sQ [(kT l24_8), (.cond (.t 26) .skip (.exit 0)), (tH s24_13), (kT l24_14)])
@[go_sem] def s24_16 (_ : Unit) : IR := (.loop (tH s24_15))
@[go_sem] def s24_17 (_ : Unit) : IR := (.block 0 (tH s24_16))
@[go_sem] def s24_18 (_ : Unit) : IR := (sQ [(kT l24_7), (tH s24_17)])
@[go_sem] def l24_19 (_ : Unit) : KL := [kA 38 (.mv (.t 6)),
  kA 39 (.mv (.t 5)),
  kA 40 (.faddr (.t 2) 1),
  kA 41 (.load (.t 40) 1 false),
  kB 42 (.iaddr (.t 39) (.t 41) 1) [2, 4, 5, 6, 38, 42],
  kA 43 (.load (.t 42) 1 false),
  kA 44 (.lookup .i (.int .i64 0) false (.t 38) (.t 43)),
  kA 45 (.bld [(.sl none 0 0 true 0), (.int .i64 0), (.sl none 0 0 true 0)] [(1, 1, (.t 44))]),
  kA 9 (.alloc [(.sl none 0 0 true 0), (.int .i64 0), (.sl none 0 0 true 0)]),
  (⟨none, .store (.t 9) 3 (.t 45), none⟩, (some [2, 4, 5, 6, 9]))]
@[go_sem] def l24_20 (_ : Unit) : KL := [kA 46 (.mv (.t 5)),
  kA 47 (.len (.t 46)),
  kB 48 (.mv (cI 0)) [2, 4, 5, 6, 9, 46, 47, 48]]
@[go_sem] def l24_21 (_ : Unit) : KL := [kB 49 (.bin .lss (.t 48) (.t 47)) [2, 4, 5, 6, 9, 46, 47, 48, 49]]
@[go_sem] def l24_22 (_ : Unit) : KL := [kA 50 (.mv (.t 48)),
  kA 51 (.iaddr (.t 46) (.t 48) 1),
  kA 52 (.load (.t 51) 1 false),
  kA 10 (.mv (.t 50)),
  kB 11 (.mv (.t 52)) [2, 4, 5, 6, 9, 10, 11, 46, 47, 48]]
@[go_sem] def l24_23 (_ : Unit) : KL := [kA 53 (.mv (.t 10)),
  kA 54 (.mv (.t 11)),
  kB 55 (.bin .neq (.t 53) (.t 54)) [2, 4, 5, 6, 9, 10, 46, 47, 48, 55]]
@[go_sem] def s24_24 (_ : Unit) : IR := (sQ [(kT l24_23), (.cond (.t 55) (.exit 3) .skip)])
@[go_sem] def l24_25 (_ : Unit) : KL := [kB 12 (.mv (.c (.sl none 0 0 true 0))) [2, 4, 5, 6, 9, 10, 12, 46, 47, 48]]
@[go_sem] def l24_26 (_ : Unit) : KL := [kA 56 (.faddr (.t 2) 2),
  kA 57 (.load (.t 56) 1 false),
  kA 58 (.mv (.t 10)),
  kA 59 (.iaddr (.t 57) (.t 58) 1),
  kB 60 (.load (.t 59) 1 false) [2, 4, 5, 6, 9, 10, 12, 46, 47, 48, 60],
  kA 61 (.len (.t 60)),
  kB 62 (.mv (cI 0)) [2, 4, 5, 6, 9, 10, 12, 46, 47, 48, 60, 61, 62]]
@[go_sem] def l24_27 (_ : Unit) : KL := [kB 63 (.bin .lss (.t 62) (.t 61)) [2, 4, 5, 6, 9, 10, 12, 46, 47, 48, 60, 61, 62, 63]]
@[go_sem] def l24_28 (_ : Unit) : KL := [kA 64 (.iaddr (.t 60) (.t 62) 1),
  kA 65 (.load (.t 64) 1 false),
  kB 14 (.mv (.t 65)) [2, 4, 5, 6, 9, 10, 12, 14, 46, 47, 48, 60, 61, 62]]
@[go_sem] def l24_29 (_ : Unit) : KL := [kA 66 (.mv (.t 12)),
  kA 67 (.mv (.t 6)),
  kA 68 (.mv (.t 5)),
  kA 69 (.mv (.t 14)),
  kB 70 (.iaddr (.t 68) (.t 69) 1) [2, 4, 5, 6, 9, 10, 46, 47, 48, 60, 61, 62, 66, 67, 70],
  kA 71 (.load (.t 70) 1 false),
  kA 72 (.lookup .i (.int .i64 0) false (.t 67) (.t 71)),
  kA 73 (.bslc 1 1 [(.int .i64 0)] [(0, (.t 72))]),
  kA 74 (.app 1 8 (.t 66) (.t 73)),
  kB 12 (.mv (.t 74)) [2, 4, 5, 6, 9, 10, 12, 46, 47, 48, 60, 61, 62]]
@[go_sem] def s24_30 (_ : Unit) : IR := (sQ [(kT l24_28), (kT l24_29)])
@[go_sem] def s24_31 (_ : Unit) : IR := (.block 5 (tH s24_30))
@[go_sem] def l24_32 (_ : Unit) : KL := [kA 75 (.bin .add (.t 62) (cI 1)),
  kB 62 (.mv (.t 75)) [2, 4, 5, 6, 9, 10, 12, 46, 47, 48, 60, 61, 62]]
@[go_sem] def s24_33 (_ : Unit) : IR := (sQ [(kT l24_27), (.cond (.t 63) .skip (.exit 4)), (tH s24_31), (kT l24_32)])
@[go_sem] def s24_34 (_ : Unit) : IR := (.loop (tH s24_33))
@[go_sem] def s24_35 (_ : Unit) : IR := (.block 4 (tH s24_34))
@[go_sem] def s24_36 (_ : Unit) : IR := (sQ [(kT l24_26), (tH s24_35)])
@[go_sem] def l24_37 (_ : Unit) : KL := [kA 76 (.mv (.t 12)),
  kB 77 (.call (n_slices_Sort_Sint_int) [(.t 76)]) [2, 4, 5, 6, 9, 10, 12, 46, 47, 48]]
@[go_sem] def l24_38 : Nat → GOp
  | 0 => ⟨(some 78), .faddr (.t 9) 0, none⟩
  | 1 => ⟨(some 79), .load (.t 78) 1 false, none⟩
  | 2 => ⟨(some 80), .faddr (.t 2) 0, none⟩
  | 3 => ⟨(some 81), .load (.t 80) 1 false, none⟩
  | 4 => ⟨(some 82), .mv (.t 10), none⟩
  | 5 => ⟨(some 83), .iaddr (.t 81) (.t 82) 1, none⟩
  | 6 => ⟨(some 84), .load (.t 83) 1 false, none⟩
  | 7 => ⟨(some 85), .call (n_impl_clone_int) [(.t 84)], none⟩
  | 8 => ⟨(some 86), .bslc 1 1 [(.sl none 0 0 true 0)] [(0, (.t 85))], none⟩
  | 9 => ⟨(some 87), .app 1 24 (.t 79) (.t 86), none⟩
  | 10 => ⟨(some 88), .faddr (.t 9) 0, none⟩
  | 11 => ⟨none, .store (.t 88) 1 (.t 87), none⟩
  | _ => ⟨none, .mkmap, none⟩
@[go_sem] def l24_39 : Nat → GOp
  | 0 => ⟨(some 89), .faddr (.t 9) 2, none⟩
  | 1 => ⟨(some 90), .load (.t 89) 1 false, none⟩
  | 2 => ⟨(some 91), .mv (.t 12), none⟩
  | 3 => ⟨(some 92), .call (n_slices_Compact_Sint_int) [(.t 91)], none⟩
  | 4 => ⟨(some 93), .call (n_impl_clone_int) [(.t 92)], none⟩
  | 5 => ⟨(some 94), .bslc 1 1 [(.sl none 0 0 true 0)] [(0, (.t 93))], none⟩
  | 6 => ⟨(some 95), .app 1 24 (.t 90) (.t 94), none⟩
  | 7 => ⟨(some 96), .faddr (.t 9) 2, none⟩
  | 8 => ⟨none, .store (.t 96) 1 (.t 95), none⟩
  | _ => ⟨none, .mkmap, none⟩
@[go_sem] def s24_40 (_ : Unit) : IR := (sQ [(kT l24_22), (tH s24_24), (kT l24_25), (tH s24_36), (kT l24_37), (.kd (oF l24_38 12) [(0, []), (1, []), (2, []), (3, []), (4, []), (5, []), (6, []), (7, [1]), (8, []), (9, []), (10, []), (11, [])] [2, 4, 5, 6, 9, 12, 46, 47, 48]), (.kd (oF l24_39 9) [(0, []), (1, []), (2, []), (3, [1]), (4, [1]), (5, []), (6, []), (7, []), (8, [])] [2, 4, 5, 6, 9, 46, 47, 48])])
@[go_sem] def s24_41 (_ : Unit) : IR := (.block 3 (tH s24_40))
@[go_sem] def l24_42 (_ : Unit) : KL := [kA 97 (.bin .add (.t 48) (cI 1)),
  kB 48 (.mv (.t 97)) [2, 4, 5, 6, 9, 46, 47, 48]]
@[go_sem] def s24_43 (_ : Unit) : IR := (sQ [(kT l24_21), (.cond (.t 49) .skip (.exit 2)), (tH s24_41), (kT l24_42)])
@[go_sem] def s24_44 (_ : Unit) : IR := (.loop (tH s24_43))
@[go_sem] def s24_45 (_ : Unit) : IR := (.block 2 (tH s24_44))
@[go_sem] def s24_46 (_ : Unit) : IR := (sQ [(kT l24_20), (tH s24_45)])
@[go_sem] def l24_47 : Nat → GOp
  | 0 => ⟨(some 98), .faddr (.t 9) 0, none⟩
  | 1 => ⟨(some 99), .load (.t 98) 1 false, none⟩
  | 2 => ⟨(some 100), .call (n_impl_clone_Sint) [(.t 99)], none⟩
  | 3 => ⟨(some 101), .faddr (.t 9) 1, none⟩
  | 4 => ⟨(some 102), .load (.t 101) 1 false, none⟩
  | 5 => ⟨(some 103), .faddr (.t 9) 2, none⟩
  | 6 => ⟨(some 104), .load (.t 103) 1 false, none⟩
  | 7 => ⟨(some 105), .call (n_impl_clone_Sint) [(.t 104)], none⟩
  | 8 => ⟨(some 106), .bld [(.sl none 0 0 true 0), (.int .i64 0), (.sl none 0 0 true 0)] [(0, 1, (.t 100)), (1, 1, (.t 102)), (2, 1, (.t 105))], none⟩
  | 9 => ⟨none, .store (.t 4) 3 (.t 106), none⟩
  | _ => ⟨none, .mkmap, none⟩
@[go_sem] def s24_48 (_ : Unit) : IR := (sQ [(kT l24_0), (tH s24_4), (kT l24_5), (kT l24_6), (tH s24_18), (kT l24_19), (tH s24_46), (.kd (oF l24_47 10) [(0, []), (1, []), (3, []), (4, []), (5, []), (6, []), (2, [4, 6]), (7, [4]), (8, []), (9, [])] [4]), .ret])
theorem c24 : compFn Tryd.prog [(0, [], [oN, oS [1, 2, 4]]), (1, [], [oN, oN, oN, oS [2, 4, 18]]), (2, [], [oN, oS [4]]), (3, [], [oN, oN, oS [2, 4, 5]]), (4, [], [oN, oS [2, 4, 5, 6]]), (5, [], [oN, oN, oS [2, 4, 5, 6, 23, 24, 25]]), (6, [], [oS [2, 4, 5, 6, 23, 24, 25, 26]]), (7, [], [oN, oN, oN, oN, oS [2, 4, 5, 6, 7, 8, 23, 24, 25]]), (8, [], [oN, oN, oS [2, 4, 5, 6, 7, 23, 24, 25, 32]]), (9, [], [oN, oN, oN, oN, oS [2, 4, 5, 6, 23, 24, 25]]), (10, [], [oN, oS [2, 4, 5, 6, 23, 24, 25]]), (11, [], [oN, oN, oN, oN, oS [2, 4, 5, 6, 38, 42], oN, oN, oN, oN, oS [2, 4, 5, 6, 9]]), (12, [], [oN, oN, oS [2, 4, 5, 6, 9, 46, 47, 48]]), (13, [], [oS [2, 4, 5, 6, 9, 46, 47, 48, 49]]), (14, [], [oN, oN, oN, oN, oS [2, 4, 5, 6, 9, 10, 11, 46, 47, 48]]), (15, [], [oN, oN, oS [2, 4, 5, 6, 9, 10, 46, 47, 48, 55]]), (16, [], [oS [2, 4, 5, 6, 9, 10, 12, 46, 47, 48]]), (17, [], [oN, oN, oN, oN, oS [2, 4, 5, 6, 9, 10, 12, 46, 47, 48, 60], oN, oS [2, 4, 5, 6, 9, 10, 12, 46, 47, 48, 60, 61, 62]]), (18, [], [oS [2, 4, 5, 6, 9, 10, 12, 46, 47, 48, 60, 61, 62, 63]]), (19, [], [oN, oN, oS [2, 4, 5, 6, 9, 10, 12, 14, 46, 47, 48, 60, 61, 62]]), (20, [], [oN, oN, oN, oN, oS [2, 4, 5, 6, 9, 10, 46, 47, 48, 60, 61, 62, 66, 67, 70], oN, oN, oN, oN, oS [2, 4, 5, 6, 9, 10, 12, 46, 47, 48, 60, 61, 62]]), (21, [], [oN, oS [2, 4, 5, 6, 9, 10, 12, 46, 47, 48, 60, 61, 62]]), (22, [], [oN, oS [2, 4, 5, 6, 9, 10, 12, 46, 47, 48]]), (23, [(0, []), (1, []), (2, []), (3, []), (4, []), (5, []), (6, []), (7, [1]), (8, []), (9, []), (10, []), (11, [])], [oS [2, 4, 5, 6, 9, 12, 46, 47, 48]]), (24, [(0, []), (1, []), (2, []), (3, [1]), (4, [1]), (5, []), (6, []), (7, []), (8, [])], [oS [2, 4, 5, 6, 9, 46, 47, 48]]), (25, [], [oN, oS [2, 4, 5, 6, 9, 46, 47, 48]]), (26, [(0, []), (1, []), (3, []), (4, []), (5, []), (6, []), (2, [4, 6]), (7, [4]), (8, []), (9, [])], [oS [4]])] Tryd.f24 = some ⟨2, 107, [.c 4 3 true], (tH s24_48)⟩ := by kernel_rfl
theorem v_impl_FoldedGraph (hl : vs.length = 2) (h : wpV Tryd.prog (tH s24_48) (postV [.c 4 3 true] RV) (envV vs) M) : VCall Tryd.prog n_impl_FoldedGraph vs M RV :=
  vcall_of_wp (fun _ _ _ hl h => acall_of_wp mixed Tryd.func24 c24 (by kernel_rfl) hl h) hl h
@[go_sem] def l45_0 (_ : Unit) : KL := [kB 6 (.mv (.c (.bool false))) [0, 1, 2]]
@[go_sem] def l45_1 (_ : Unit) : KL := [kA 7 (.mv (.t 0)),
  kA 8 (.mv (.t 1)),
  kA 9 (.bin .geq (.t 7) (.t 8)),
  kA 10 (.mv (.t 9)),
  (⟨(some 11), .mv (.t 0), (some (10, true))⟩, (some [2, 10, 11])),
  (⟨(some 12), .mv (.t 2), (some (10, true))⟩, none),
  (⟨(some 13), .bin .leq (.t 11) (.t 12), (some (10, true))⟩, none),
  kA 14 (.pick (.t 10) (.t 13) (.c (.bool false))),
  kB 6 (.mv (.t 14)) [6]]
@[go_sem] def s45_2 (_ : Unit) : IR := (sQ [(kT l45_0), (kT l45_1), .ret])
theorem c45 : compFn Tryd.prog [(0, [], [oS [0, 1, 2]]), (1, [], [oN, oN, oN, oN, oS [2, 10, 11], oN, oN, oN, oS [6]])] Tryd.f45 = some ⟨3, 15, [.t 6], (tH s45_2)⟩ := by kernel_rfl
theorem v_spec_l1In (hl : vs.length = 3) (h : wpV Tryd.prog (tH s45_2) (postV [.t 6] RV) (envV vs) M) : VCall Tryd.prog n_spec_l1In vs M RV :=
  vcall_of_wp (fun _ _ _ hl h => acall_of_wp mixed Tryd.func45 c45 (by kernel_rfl) hl h) hl h
@[go_sem] def l73_0 (_ : Unit) : KL := [kB 2 (.mv (.c (.bool false))) [0]]
@[go_sem] def l73_1 (_ : Unit) : KL := [kB 3 (.mv (cI 0)) [0, 3]]
@[go_sem] def l73_2 (_ : Unit) : KL := [kA 4 (.mv (.t 3)),
  kA 5 (.mv (.t 0)),
  kA 6 (.len (.t 5)),
  kB 7 (.bin .lss (.t 4) (.t 6)) [0, 3, 7]]
@[go_sem] def s73_3 (_ : Unit) : IR := (sQ [(kT l73_2), (.cond (.t 7) .skip (.exit 0))])
@[go_sem] def l73_4 (_ : Unit) : KL := [kA 10 (.mv (.t 0)),
  kA 11 (.mv (.t 3)),
  kA 12 (.iaddr (.t 10) (.t 11) 1),
  kA 13 (.load (.t 12) 1 false),
  kB 14 (.call (n_spec_l1In) [(.t 13), (cI 0), (cI 1)]) [0, 3, 14],
  kB 15 (.un .not (.t 14)) [0, 3, 15]]
@[go_sem] def l73_5 (_ : Unit) : KL := [kB 2 (.mv (.c (.bool false))) [2]]
@[go_sem] def s73_6 (_ : Unit) : IR := (sQ [(kT l73_5), .ret])
@[go_sem] def s73_7 (_ : Unit) : IR := (sQ [(kT l73_4), (.cond (.t 15) (tH s73_6) .skip)])
@[go_sem] def s73_8 (_ : Unit) : IR := (.block 1 (tH s73_7))
@[go_sem] def l73_9 (_ : Unit) : KL := [kA 8 (.mv (.t 3)),
  kA 9 (.bin .add (.t 8) (cI 1)),
  kB 3 (.mv (.t 9)) [0, 3]]
@[go_sem] def s73_10 (_ : Unit) : IR := (sQ [(tH s73_3), (tH s73_8), (kT l73_9)])
@[go_sem] def s73_11 (_ : Unit) : IR := (.loop (tH s73_10))
@[go_sem] def s73_12 (_ : Unit) : IR := (.block 0 (tH s73_11))
@[go_sem] def s73_13 (_ : Unit) : IR := (sQ [(kT l73_1), (tH s73_12)])
@[go_sem] def l73_14 (_ : Unit) : KL := [kB 2 (.mv (.c (.bool true))) [2]]
@[go_sem] def s73_15 (_ : Unit) : IR := (sQ [(kT l73_0), (tH s73_13), (kT l73_14), .ret])
theorem c73 : compFn Tryd.prog [(0, [], [oS [0]]), (1, [], [oS [0, 3]]), (2, [], [oN, oN, oN, oS [0, 3, 7]]), (4, [], [oN, oN, oN, oN, oS [0, 3, 14], oS [0, 3, 15]]), (5, [], [oS [2]]), (3, [], [oN, oN, oS [0, 3]]), (6, [], [oS [2]])] Tryd.f73 = some ⟨1, 16, [.t 2], (tH s73_15)⟩ := by kernel_rfl
theorem v_spec_l6Are (hl : vs.length = 1) (h : wpV Tryd.prog (tH s73_15) (postV [.t 2] RV) (envV vs) M) : VCall Tryd.prog n_spec_l6Are vs M RV :=
  vcall_of_wp (fun _ _ _ hl h => acall_of_wp mixed Tryd.func73 c73 (by kernel_rfl) hl h) hl h
@[go_sem] def l56_0 (_ : Unit) : KL := [kB 4 (.mv (.c (.bool false))) [0, 1]]
@[go_sem] def l56_1 (_ : Unit) : KL := [kB 5 (.mv (cI 0)) [0, 1, 5]]
@[go_sem] def l56_2 (_ : Unit) : KL := [kA 6 (.mv (.t 5)),
  kA 7 (.mv (.t 0)),
  kA 8 (.len (.t 7)),
  kB 9 (.bin .lss (.t 6) (.t 8)) [0, 1, 5, 9]]
@[go_sem] def s56_3 (_ : Unit) : IR := (sQ [(kT l56_2), (.cond (.t 9) .skip (.exit 0))])
@[go_sem] def l56_4 (_ : Unit) : KL := [kA 12 (.mv (.t 0)),
  kA 13 (.mv (.t 5)),
  kA 14 (.iaddr (.t 12) (.t 13) 1),
  kA 15 (.load (.t 14) 1 false),
  kB 16 (.len (.t 15)) [0, 1, 5, 16],
  kA 17 (.mv (.t 1)),
  kA 18 (.bin .neq (.t 16) (.t 17)),
  kA 19 (.mv (.t 18)),
  (⟨(some 20), .mv (.t 0), (some (19, false))⟩, none),
  (⟨(some 21), .mv (.t 5), (some (19, false))⟩, (some [0, 1, 5, 19, 20, 21])),
  (⟨(some 22), .iaddr (.t 20) (.t 21) 1, (some (19, false))⟩, none),
  (⟨(some 23), .load (.t 22) 1 false, (some (19, false))⟩, none),
  (⟨(some 24), .call (n_spec_l6Are) [(.t 23)], (some (19, false))⟩, none),
  (⟨(some 25), .un .not (.t 24), (some (19, false))⟩, none),
  kB 26 (.pick (.t 19) (.c (.bool true)) (.t 25)) [0, 1, 5, 26]]
@[go_sem] def l56_5 (_ : Unit) : KL := [kB 4 (.mv (.c (.bool false))) [4]]
@[go_sem] def s56_6 (_ : Unit) : IR := (sQ [(kT l56_5), .ret])
@[go_sem] def s56_7 (_ : Unit) : IR := (sQ [(kT l56_4), (.cond (.t 26) (tH s56_6) .skip)])
@[go_sem] def s56_8 (_ : Unit) : IR := (.block 1 (tH s56_7))
@[go_sem] def l56_9 (_ : Unit) : KL := [kA 10 (.mv (.t 5)),
  kA 11 (.bin .add (.t 10) (cI 1)),
  kB 5 (.mv (.t 11)) [0, 1, 5]]
@[go_sem] def s56_10 (_ : Unit) : IR := (sQ [(tH s56_3), (tH s56_8), (kT l56_9)])
@[go_sem] def s56_11 (_ : Unit) : IR := (.loop (tH s56_10))
@[go_sem] def s56_12 (_ : Unit) : IR := (.block 0 (tH s56_11))
@[go_sem] def s56_13 (_ : Unit) : IR := (sQ [(kT l56_1), (tH s56_12)])
@[go_sem] def l56_14 (_ : Unit) : KL := [kB 4 (.mv (.c (.bool true))) [4]]
@[go_sem] def s56_15 (_ : Unit) : IR := (sQ [(kT l56_0), (tH s56_13), (kT l56_14), .ret])
theorem c56 : compFn Tryd.prog [(0, [], [oS [0, 1]]), (1, [], [oS [0, 1, 5]]), (2, [], [oN, oN, oN, oS [0, 1, 5, 9]]), (4, [], [oN, oN, oN, oN, oS [0, 1, 5, 16], oN, oN, oN, oN, oS [0, 1, 5, 19, 20, 21], oN, oN, oN, oN, oS [0, 1, 5, 26]]), (5, [], [oS [4]]), (3, [], [oN, oN, oS [0, 1, 5]]), (6, [], [oS [4]])] Tryd.f56 = some ⟨2, 27, [.t 4], (tH s56_15)⟩ := by kernel_rfl
theorem v_spec_l20Letters (hl : vs.length = 2) (h : wpV Tryd.prog (tH s56_15) (postV [.t 4] RV) (envV vs) M) : VCall Tryd.prog n_spec_l20Letters vs M RV :=
  vcall_of_wp (fun _ _ _ hl h => acall_of_wp mixed Tryd.func56 c56 (by kernel_rfl) hl h) hl h
@[go_sem] def l27_0 (_ : Unit) : KL := [kA 2 (.box (.t 0)),
  kB 4 (.mv (.c (.bool false))) [1, 2]]
@[go_sem] def l27_1 (_ : Unit) : KL := [kA 8 (.faddr (.t 2) 0),
  kA 9 (.load (.t 8) 1 false),
  kA 10 (.len (.t 9)),
  kB 5 (.mv (.t 10)) [1, 2, 5]]
@[go_sem] def l27_2 (_ : Unit) : KL := [kA 11 (.mv (.t 1)),
  kA 12 (.call (n_spec_l1In) [(.t 11), (cI 0), (.c (.int .i64 4))]),
  kA 13 (.un .not (.t 12)),
  kA 14 (.mv (.t 13)),
  (⟨(some 15), .mv (.t 5), (some (14, false))⟩, (some [1, 2, 5, 14, 15])),
  (⟨(some 16), .call (n_spec_l1In) [(.t 15), (cI 1), (.c (.int .i64 400))], (some (14, false))⟩, none),
  (⟨(some 17), .un .not (.t 16), (some (14, false))⟩, none),
  kA 18 (.pick (.t 14) (.c (.bool true)) (.t 17)),
  kA 19 (.mv (.t 18)),
  (⟨(some 20), .faddr (.t 2) 2, (some (19, false))⟩, (some [1, 2, 5, 19, 20])),
  (⟨(some 21), .load (.t 20) 1 false, (some (19, false))⟩, none),
  (⟨(some 22), .len (.t 21), (some (19, false))⟩, none),
  (⟨(some 23), .mv (.t 5), (some (19, false))⟩, none),
  (⟨(some 24), .bin .neq (.t 22) (.t 23), (some (19, false))⟩, none),
  kB 25 (.pick (.t 19) (.c (.bool true)) (.t 24)) [1, 2, 5, 25],
  kA 26 (.mv (.t 25)),
  (⟨(some 27), .faddr (.t 2) 1, (some (26, false))⟩, none),
  (⟨(some 28), .load (.t 27) 1 false, (some (26, false))⟩, none),
  (⟨(some 29), .mv (.t 5), (some (26, false))⟩, none),
  (⟨(some 30), .bin .sub (.t 29) (cI 1), (some (26, false))⟩, (some [1, 2, 5, 26, 28, 30])),
  (⟨(some 31), .call (n_spec_l1In) [(.t 28), (cI 0), (.t 30)], (some (26, false))⟩, none),
  (⟨(some 32), .un .not (.t 31), (some (26, false))⟩, none),
  kA 33 (.pick (.t 26) (.c (.bool true)) (.t 32)),
  kA 34 (.mv (.t 33)),
  (⟨(some 35), .faddr (.t 2) 0, (some (34, false))⟩, (some [1, 2, 5, 34, 35])),
  (⟨(some 36), .load (.t 35) 1 false, (some (34, false))⟩, none),
  (⟨(some 37), .mv (.t 1), (some (34, false))⟩, none),
  (⟨(some 38), .call (n_spec_l20Letters) [(.t 36), (.t 37)], (some (34, false))⟩, none),
  (⟨(some 39), .un .not (.t 38), (some (34, false))⟩, none),
  kB 40 (.pick (.t 34) (.c (.bool true)) (.t 39)) [2, 5, 40]]
@[go_sem] def l27_3 (_ : Unit) : KL := [kB 4 (.mv (.c (.bool false))) [4]]
@[go_sem] def s27_4 (_ : Unit) : IR := (sQ [(kT l27_3), .ret])
@[go_sem] def s27_5 (_ : Unit) : IR := (sQ [(kT l27_2), (.cond (.t 40) (tH s27_4) .skip)])
@[go_sem] def l27_6 (_ : Unit) : KL := [kB 6 (.mv (cI 0)) [2, 5, 6]]
@[go_sem] def l27_7 (_ : Unit) : KL := [kA 41 (.mv (.t 6)),
  kA 42 (.mv (.t 5)),
  kB 43 (.bin .lss (.t 41) (.t 42)) [2, 5, 6, 43]]
@[go_sem] def s27_8 (_ : Unit) : IR := (sQ [(kT l27_7), (.cond (.t 43) .skip (.exit 0))])
@[go_sem] def l27_9 (_ : Unit) : KL := [kB 7 (.mv (cI 0)) [2, 5, 6, 7]]
@[go_sem] def l27_10 (_ : Unit) : KL := [kA 46 (.mv (.t 7)),
  kA 47 (.faddr (.t 2) 2),
  kA 48 (.load (.t 47) 1 false),
  kA 49 (.mv (.t 6)),
  kB 50 (.iaddr (.t 48) (.t 49) 1) [2, 5, 6, 7, 46, 50],
  kA 51 (.load (.t 50) 1 false),
  kA 52 (.len (.t 51)),
  kB 53 (.bin .lss (.t 46) (.t 52)) [2, 5, 6, 7, 53]]
@[go_sem] def s27_11 (_ : Unit) : IR := (sQ [(kT l27_10), (.cond (.t 53) .skip (.exit 2))])
@[go_sem] def l27_12 : Nat → GOp
  | 0 => ⟨(some 56), .faddr (.t 2) 2, none⟩
  | 1 => ⟨(some 57), .load (.t 56) 1 false, none⟩
  | 2 => ⟨(some 58), .mv (.t 6), none⟩
  | 3 => ⟨(some 59), .iaddr (.t 57) (.t 58) 1, none⟩
  | 4 => ⟨(some 60), .load (.t 59) 1 false, none⟩
  | 5 => ⟨(some 61), .mv (.t 7), none⟩
  | 6 => ⟨(some 62), .iaddr (.t 60) (.t 61) 1, none⟩
  | 7 => ⟨(some 63), .load (.t 62) 1 false, none⟩
  | 8 => ⟨(some 64), .mv (.t 5), none⟩
  | 9 => ⟨(some 65), .bin .sub (.t 64) (cI 1), none⟩
  | 10 => ⟨(some 66), .call (n_spec_l1In) [(.t 63), (cI 0), (.t 65)], none⟩
  | 11 => ⟨(some 67), .un .not (.t 66), none⟩
  | 12 => ⟨(some 68), .mv (.t 67), none⟩
  | 13 => ⟨(some 69), .mv (.t 7), (some (68, false))⟩
  | 14 => ⟨(some 70), .bin .gtr (.t 69) (cI 0), (some (68, false))⟩
  | 15 => ⟨(some 71), .mv (.t 70), (some (68, false))⟩
  | 16 => ⟨(some 72), .faddr (.t 2) 2, (some (71, true))⟩
  | 17 => ⟨(some 73), .load (.t 72) 1 false, (some (71, true))⟩
  | 18 => ⟨(some 74), .mv (.t 6), (some (71, true))⟩
  | 19 => ⟨(some 75), .iaddr (.t 73) (.t 74) 1, (some (71, true))⟩
  | 20 => ⟨(some 76), .load (.t 75) 1 false, (some (71, true))⟩
  | 21 => ⟨(some 77), .mv (.t 7), (some (71, true))⟩
  | 22 => ⟨(some 78), .iaddr (.t 76) (.t 77) 1, (some (71, true))⟩
  | 23 => ⟨(some 79), .load (.t 78) 1 false, (some (71, true))⟩
  | 24 => ⟨(some 80), .faddr (.t 2) 2, (some (71, true))⟩
  | 25 => ⟨(some 81), .load (.t 80) 1 false, (some (71, true))⟩
  | 26 => ⟨(some 82), .mv (.t 6), (some (71, true))⟩
  | 27 => ⟨(some 83), .iaddr (.t 81) (.t 82) 1, (some (71, true))⟩
  | 28 => ⟨(some 84), .load (.t 83) 1 false, (some (71, true))⟩
  | 29 => ⟨(some 85), .mv (.t 7), (some (71, true))⟩
  | 30 => ⟨(some 86), .bin .sub (.t 85) (cI 1), (some (71, true))⟩
  | 31 => ⟨(some 87), .iaddr (.t 84) (.t 86) 1, (some (71, true))⟩
  | 32 => ⟨(some 88), .load (.t 87) 1 false, (some (71, true))⟩
  | 33 => ⟨(some 89), .bin .leq (.t 79) (.t 88), (some (71, true))⟩
  | 34 => ⟨(some 90), .pick (.t 71) (.t 89) (.c (.bool false)), (some (68, false))⟩
  | 35 => ⟨(some 91), .pick (.t 68) (.c (.bool true)) (.t 90), none⟩
  | _ => ⟨none, .mkmap, none⟩
@[go_sem] def l27_13 (_ : Unit) : KL := [kB 4 (.mv (.c (.bool false))) [4]]
@[go_sem] def s27_14 (_ : Unit) : IR := (sQ [(kT l27_13), .ret])
@[go_sem] def s27_15 (_ : Unit) : IR := (sQ [(.kd (oF l27_12 36) [(0, []), (1, []), (2, []), (3, []), (4, []), (5, []), (6, []), (7, []), (8, []), (9, []), (10, []), (11, []), (12, []), (13, []), (14, []), (15, []), (16, []), (17, []), (18, []), (19, []), (20, []), (21, []), (22, []), (23, []), (24, []), (25, []), (26, []), (27, []), (28, []), (29, []), (30, []), (31, []), (32, []), (33, []), (34, []), (35, [])] [2, 5, 6, 7, 91]), (.cond (.t 91) (tH s27_14) .skip)])
@[go_sem] def s27_16 (_ : Unit) : IR := (.block 3 (tH s27_15))
@[go_sem] def l27_17 (_ : Unit) : KL := [kA 54 (.mv (.t 7)),
  kA 55 (.bin .add (.t 54) (cI 1)),
  kB 7 (.mv (.t 55)) [2, 5, 6, 7]]
@[go_sem] def s27_18 (_ : Unit) : IR := (sQ [(tH s27_11), (tH s27_16), (kT l27_17)])
@[go_sem] def s27_19 (_ : Unit) : IR := (.loop (tH s27_18))
@[go_sem] def s27_20 (_ : Unit) : IR := (.block 2 (tH s27_19))
@[go_sem] def s27_21 (_ : Unit) : IR := (sQ [(kT l27_9), (tH s27_20)])
@[go_sem] def l27_22 (_ : Unit) : KL := [kA 92 (.faddr (.t 2) 2),
  kA 93 (.load (.t 92) 1 false),
  kA 94 (.mv (.t 6)),
  kA 95 (.iaddr (.t 93) (.t 94) 1),
  kB 96 (.load (.t 95) 1 false) [2, 5, 6, 96],
  kA 97 (.len (.t 96)),
  kB 98 (.bin .eql (.t 97) (cI 0)) [2, 5, 6, 98]]
@[go_sem] def l27_23 (_ : Unit) : KL := [kB 4 (.mv (.c (.bool false))) [4]]
@[go_sem] def s27_24 (_ : Unit) : IR := (sQ [(kT l27_23), .ret])
@[go_sem] def s27_25 (_ : Unit) : IR := (sQ [(tH s27_21), (kT l27_22), (.cond (.t 98) (tH s27_24) .skip)])
@[go_sem] def s27_26 (_ : Unit) : IR := (.block 1 (tH s27_25))
@[go_sem] def l27_27 (_ : Unit) : KL := [kA 44 (.mv (.t 6)),
  kA 45 (.bin .add (.t 44) (cI 1)),
  kB 6 (.mv (.t 45)) [2, 5, 6]]
@[go_sem] def s27_28 (_ : Unit) : IR := (sQ [(tH s27_8), (tH s27_26), (kT l27_27)])
@[go_sem] def s27_29 (_ : Unit) : IR := (.loop (tH s27_28))
@[go_sem] def s27_30 (_ : Unit) : IR := (.block 0 (tH s27_29))
@[go_sem] def s27_31 (_ : Unit) : IR := (sQ [(kT l27_6), (tH s27_30)])
@[go_sem] def l27_32 (_ : Unit) : KL := [kB 4 (.mv (.c (.bool true))) [4]]
@[go_sem] def s27_33 (_ : Unit) : IR := (sQ [(kT l27_0), (kT l27_1), (tH s27_5), (tH s27_31), (kT l27_32), .ret])
theorem c27 : compFn Tryd.prog [(0, [], [oN, oS [1, 2]]), (1, [], [oN, oN, oN, oS [1, 2, 5]]), (2, [], [oN, oN, oN, oN, oS [1, 2, 5, 14, 15], oN, oN, oN, oN, oS [1, 2, 5, 19, 20], oN, oN, oN, oN, oS [1, 2, 5, 25], oN, oN, oN, oN, oS [1, 2, 5, 26, 28, 30], oN, oN, oN, oN, oS [1, 2, 5, 34, 35], oN, oN, oN, oN, oS [2, 5, 40]]), (3, [], [oS [4]]), (4, [], [oS [2, 5, 6]]), (5, [], [oN, oN, oS [2, 5, 6, 43]]), (7, [], [oS [2, 5, 6, 7]]), (8, [], [oN, oN, oN, oN, oS [2, 5, 6, 7, 46, 50], oN, oN, oS [2, 5, 6, 7, 53]]), (10, [(0, []), (1, []), (2, []), (3, []), (4, []), (5, []), (6, []), (7, []), (8, []), (9, []), (10, []), (11, []), (12, []), (13, []), (14, []), (15, []), (16, []), (17, []), (18, []), (19, []), (20, []), (21, []), (22, []), (23, []), (24, []), (25, []), (26, []), (27, []), (28, []), (29, []), (30, []), (31, []), (32, []), (33, []), (34, []), (35, [])], [oS [2, 5, 6, 7, 91]]), (11, [], [oS [4]]), (9, [], [oN, oN, oS [2, 5, 6, 7]]), (12, [], [oN, oN, oN, oN, oS [2, 5, 6, 96], oN, oS [2, 5, 6, 98]]), (13, [], [oS [4]]), (6, [], [oN, oN, oS [2, 5, 6]]), (14, [], [oS [4]])] Tryd.f27 = some ⟨2, 99, [.t 4], (tH s27_33)⟩ := by kernel_rfl
theorem v_spec_GraphValid (hl : vs.length = 2) (h : wpV Tryd.prog (tH s27_33) (postV [.t 4] RV) (envV vs) M) : VCall Tryd.prog n_spec_GraphValid vs M RV :=
  vcall_of_wp (fun _ _ _ hl h => acall_of_wp mixed Tryd.func27 c27 (by kernel_rfl) hl h) hl h
@[go_sem] def l59_0 (_ : Unit) : KL := [kB 4 (.mv (.c (.bool false))) [0, 1]]
@[go_sem] def l59_1 (_ : Unit) : KL := [kA 6 (.mv (.t 0)),
  kA 7 (.len (.t 6)),
  kA 8 (.mv (.t 1)),
  kA 9 (.len (.t 8)),
  kB 10 (.bin .neq (.t 7) (.t 9)) [0, 1, 10]]
@[go_sem] def l59_2 (_ : Unit) : KL := [kB 4 (.mv (.c (.bool false))) [4]]
@[go_sem] def s59_3 (_ : Unit) : IR := (sQ [(kT l59_2), .ret])
@[go_sem] def s59_4 (_ : Unit) : IR := (sQ [(kT l59_1), (.cond (.t 10) (tH s59_3) .skip)])
@[go_sem] def l59_5 (_ : Unit) : KL := [kB 5 (.mv (cI 0)) [0, 1, 5]]
@[go_sem] def l59_6 (_ : Unit) : KL := [kA 11 (.mv (.t 5)),
  kA 12 (.mv (.t 0)),
  kA 13 (.len (.t 12)),
  kB 14 (.bin .lss (.t 11) (.t 13)) [0, 1, 5, 14]]
@[go_sem] def s59_7 (_ : Unit) : IR := (sQ [(kT l59_6), (.cond (.t 14) .skip (.exit 0))])
@[go_sem] def l59_8 : Nat → GOp
  | 0 => ⟨(some 17), .mv (.t 0), none⟩
  | 1 => ⟨(some 18), .mv (.t 5), none⟩
  | 2 => ⟨(some 19), .iaddr (.t 17) (.t 18) 1, none⟩
  | 3 => ⟨(some 20), .load (.t 19) 1 false, none⟩
  | 4 => ⟨(some 21), .mv (.t 1), none⟩
  | 5 => ⟨(some 22), .mv (.t 5), none⟩
  | 6 => ⟨(some 23), .iaddr (.t 21) (.t 22) 1, none⟩
  | 7 => ⟨(some 24), .load (.t 23) 1 false, none⟩
  | 8 => ⟨(some 25), .bin .neq (.t 20) (.t 24), none⟩
  | _ => ⟨none, .mkmap, none⟩
@[go_sem] def l59_9 (_ : Unit) : KL := [kB 4 (.mv (.c (.bool false))) [4]]
@[go_sem] def s59_10 (_ : Unit) : IR := (sQ [(kT l59_9), .ret])
@[go_sem] def s59_11 (_ : Unit) : IR := (sQ [(.kd (oF l59_8 9) [(0, []), (1, []), (2, []), (3, []), (4, []), (5, []), (6, []), (7, []), (8, [])] [0, 1, 5, 25]), (.cond (.t 25) (tH s59_10) .skip)])
@[go_sem] def s59_12 (_ : Unit) : IR := (.block 1 (tH s59_11))
@[go_sem] def l59_13 (_ : Unit) : KL := [kA 15 (.mv (.t 5)),
  kA 16 (.bin .add (.t 15) (cI 1)),
  kB 5 (.mv (.t 16)) [0, 1, 5]]
@[go_sem] def s59_14 (_ : Unit) : IR := (sQ [(tH s59_7), (tH s59_12), (kT l59_13)])
@[go_sem] def s59_15 (_ : Unit) : IR := (.loop (tH s59_14))
@[go_sem] def s59_16 (_ : Unit) : IR := (.block 0 (tH s59_15))
@[go_sem] def s59_17 (_ : Unit) : IR := (sQ [(kT l59_5), (tH s59_16)])
@[go_sem] def l59_18 (_ : Unit) : KL := [kB 4 (.mv (.c (.bool true))) [4]]
@[go_sem] def s59_19 (_ : Unit) : IR := (sQ [(kT l59_0), (tH s59_4), (tH s59_17), (kT l59_18), .ret])
theorem c59 : compFn Tryd.prog [(0, [], [oS [0, 1]]), (1, [], [oN, oN, oN, oN, oS [0, 1, 10]]), (2, [], [oS [4]]), (3, [], [oS [0, 1, 5]]), (4, [], [oN, oN, oN, oS [0, 1, 5, 14]]), (6, [(0, []), (1, []), (2, []), (3, []), (4, []), (5, []), (6, []), (7, []), (8, [])], [oS [0, 1, 5, 25]]), (7, [], [oS [4]]), (5, [], [oN, oN, oS [0, 1, 5]]), (8, [], [oS [4]])] Tryd.f59 = some ⟨2, 26, [.t 4], (tH s59_19)⟩ := by kernel_rfl
theorem v_spec_l2Same (hl : vs.length = 2) (h : wpV Tryd.prog (tH s59_19) (postV [.t 4] RV) (envV vs) M) : VCall Tryd.prog n_spec_l2Same vs M RV :=
  vcall_of_wp (fun _ _ _ hl h => acall_of_wp mixed Tryd.func59 c59 (by kernel_rfl) hl h) hl h
@[go_sem] def l74_0 (_ : Unit) : KL := [kA 3 (.box (.t 0)),
  kB 6 (.mv (.c (.sl none 0 0 true 0))) [1, 2, 3]]
@[go_sem] def l74_1 (_ : Unit) : KL := [kA 9 (.mv (.t 1)),
  kA 10 (.len (.t 9)),
  kA 11 (.mks [(.bool false)] 1 (.t 10)),
  kB 7 (.mv (.t 11)) [1, 2, 3, 7]]
@[go_sem] def l74_2 (_ : Unit) : KL := [kB 8 (.mv (cI 0)) [1, 2, 3, 7, 8]]
@[go_sem] def l74_3 (_ : Unit) : KL := [kA 12 (.mv (.t 8)),
  kA 13 (.faddr (.t 3) 2),
  kA 14 (.load (.t 13) 1 false),
  kA 15 (.mv (.t 2)),
  kB 16 (.iaddr (.t 14) (.t 15) 1) [1, 2, 3, 7, 8, 12, 16],
  kA 17 (.load (.t 16) 1 false),
  kA 18 (.len (.t 17)),
  kB 19 (.bin .lss (.t 12) (.t 18)) [1, 2, 3, 7, 8, 19]]
@[go_sem] def s74_4 (_ : Unit) : IR := (sQ [(kT l74_3), (.cond (.t 19) .skip (.exit 0))])
@[go_sem] def l74_5 (_ : Unit) : KL := [kA 22 (.mv (.t 7)),
  kA 23 (.mv (.t 1)),
  kA 24 (.faddr (.t 3) 2),
  kA 25 (.load (.t 24) 1 false),
  kB 26 (.mv (.t 2)) [1, 2, 3, 7, 8, 22, 23, 25, 26],
  kA 27 (.iaddr (.t 25) (.t 26) 1),
  kA 28 (.load (.t 27) 1 false),
  kA 29 (.mv (.t 8)),
  kA 30 (.iaddr (.t 28) (.t 29) 1),
  kB 31 (.load (.t 30) 1 false) [1, 2, 3, 7, 8, 22, 23, 31],
  kA 32 (.iaddr (.t 23) (.t 31) 1),
  kA 33 (.load (.t 32) 1 false),
  kA 34 (.iaddr (.t 22) (.t 33) 1),
  (⟨none, .store (.t 34) 1 (.c (.bool true)), none⟩, (some [1, 2, 3, 7, 8]))]
@[go_sem] def s74_6 (_ : Unit) : IR := (.block 1 (kT l74_5))
@[go_sem] def l74_7 (_ : Unit) : KL := [kA 20 (.mv (.t 8)),
  kA 21 (.bin .add (.t 20) (cI 1)),
  kB 8 (.mv (.t 21)) [1, 2, 3, 7, 8]]
@[go_sem] def s74_8 (_ : Unit) : IR := (sQ [(tH s74_4), (tH s74_6), (kT l74_7)])
@[go_sem] def s74_9 (_ : Unit) : IR := (.loop (tH s74_8))
@[go_sem] def s74_10 (_ : Unit) : IR := (.block 0 (tH s74_9))
@[go_sem] def s74_11 (_ : Unit) : IR := (sQ [(kT l74_2), (tH s74_10)])
@[go_sem] def l74_12 (_ : Unit) : KL := [kA 35 (.mv (.t 7)),
  kA 36 (.call (n_spec_l4List) [(.t 35)]),
  kB 6 (.mv (.t 36)) [6]]
@[go_sem] def s74_13 (_ : Unit) : IR := (sQ [(kT l74_0), (kT l74_1), (tH s74_11), (kT l74_12), .ret])
theorem c74 : compFn Tryd.prog [(0, [], [oN, oS [1, 2, 3]]), (1, [], [oN, oN, oN, oS [1, 2, 3, 7]]), (2, [], [oS [1, 2, 3, 7, 8]]), (3, [], [oN, oN, oN, oN, oS [1, 2, 3, 7, 8, 12, 16], oN, oN, oS [1, 2, 3, 7, 8, 19]]), (5, [], [oN, oN, oN, oN, oS [1, 2, 3, 7, 8, 22, 23, 25, 26], oN, oN, oN, oN, oS [1, 2, 3, 7, 8, 22, 23, 31], oN, oN, oN, oS [1, 2, 3, 7, 8]]), (4, [], [oN, oN, oS [1, 2, 3, 7, 8]]), (6, [], [oN, oN, oS [6]])] Tryd.f74 = some ⟨3, 37, [.t 6], (tH s74_13)⟩ := by kernel_rfl
theorem v_spec_l25Class (hl : vs.length = 3) (h : wpV Tryd.prog (tH s74_13) (postV [.t 6] RV) (envV vs) M) : VCall Tryd.prog n_spec_l25Class vs M RV :=
  vcall_of_wp (fun _ _ _ hl h => acall_of_wp mixed Tryd.func74 c74 (by kernel_rfl) hl h) hl h
@[go_sem] def l60_0 (_ : Unit) : KL := [kA 2 (.box (.t 0)),
  kB 4 (.mv (.c (.sl none 0 0 true 0))) [1, 2]]
@[go_sem] def l60_1 (_ : Unit) : KL := [kA 11 (.bslc 1 0 [(.sl none 0 0 true 0)] []),
  kB 5 (.mv (.t 11)) [1, 2, 5]]
@[go_sem] def l60_2 (_ : Unit) : KL := [kB 6 (.mv (cI 0)) [1, 2, 5, 6]]
@[go_sem] def l60_3 (_ : Unit) : KL := [kA 12 (.mv (.t 6)),
  kA 13 (.mv (.t 1)),
  kA 14 (.len (.t 13)),
  kB 15 (.bin .lss (.t 12) (.t 14)) [1, 2, 5, 6, 15]]
@[go_sem] def s60_4 (_ : Unit) : IR := (sQ [(kT l60_3), (.cond (.t 15) .skip (.exit 0))])
@[go_sem] def l60_5 (_ : Unit) : KL := [kA 18 (.mv (.t 5)),
  kA 19 (.load (.t 2) 3 true),
  kA 20 (.mv (.t 1)),
  kA 21 (.mv (.t 6)),
  kB 22 (.call (n_spec_l25Class) [(.t 19), (.t 20), (.t 21)]) [1, 2, 6, 18, 22],
  kA 23 (.bslc 1 1 [(.sl none 0 0 true 0)] [(0, (.t 22))]),
  kA 24 (.app 1 24 (.t 18) (.t 23)),
  kB 5 (.mv (.t 24)) [1, 2, 5, 6]]
@[go_sem] def s60_6 (_ : Unit) : IR := (.block 1 (kT l60_5))
@[go_sem] def l60_7 (_ : Unit) : KL := [kA 16 (.mv (.t 6)),
  kA 17 (.bin .add (.t 16) (cI 1)),
  kB 6 (.mv (.t 17)) [1, 2, 5, 6]]
@[go_sem] def s60_8 (_ : Unit) : IR := (sQ [(tH s60_4), (tH s60_6), (kT l60_7)])
@[go_sem] def s60_9 (_ : Unit) : IR := (.loop (tH s60_8))
@[go_sem] def s60_10 (_ : Unit) : IR := (.block 0 (tH s60_9))
@[go_sem] def s60_11 (_ : Unit) : IR := (sQ [(kT l60_2), (tH s60_10)])
@[go_sem] def l60_12 (_ : Unit) : KL := [kA 25 (.bslc 1 0 [(.int .i64 0)] []),
  kB 7 (.mv (.t 25)) [1, 5, 7]]
@[go_sem] def l60_13 (_ : Unit) : KL := [kB 8 (.mv (cI 0)) [1, 5, 7, 8]]
@[go_sem] def l60_14 (_ : Unit) : KL := [kA 26 (.mv (.t 8)),
  kA 27 (.mv (.t 1)),
  kA 28 (.len (.t 27)),
  kB 29 (.bin .lss (.t 26) (.t 28)) [1, 5, 7, 8, 29]]
@[go_sem] def s60_15 (_ : Unit) : IR := (sQ [(kT l60_14), (.cond (.t 29) .skip (.exit 2))])
@[go_sem] def l60_16 (_ : Unit) : KL := [kA 32 (.mv (.t 8)),
  kB 9 (.mv (.t 32)) [1, 5, 7, 8, 9]]
@[go_sem] def l60_17 (_ : Unit) : KL := [kA 33 (.mv (.t 8)),
  kA 34 (.bin .sub (.t 33) (cI 1)),
  kB 10 (.mv (.t 34)) [1, 5, 7, 8, 9, 10]]
@[go_sem] def l60_18 (_ : Unit) : KL := [kA 35 (.mv (.t 10)),
  kB 36 (.bin .geq (.t 35) (cI 0)) [1, 5, 7, 8, 9, 10, 36]]
@[go_sem] def s60_19 (_ : Unit) : IR := (sQ [(kT l60_18), (.cond (.t 36) .skip (.exit 4))])
@[go_sem] def l60_20 : Nat → GOp
  | 0 => ⟨(some 39), .mv (.t 1), none⟩
  | 1 => ⟨(some 40), .mv (.t 10), none⟩
  | 2 => ⟨(some 41), .iaddr (.t 39) (.t 40) 1, none⟩
  | 3 => ⟨(some 42), .load (.t 41) 1 false, none⟩
  | 4 => ⟨(some 43), .mv (.t 1), none⟩
  | 5 => ⟨(some 44), .mv (.t 8), none⟩
  | 6 => ⟨(some 45), .iaddr (.t 43) (.t 44) 1, none⟩
  | 7 => ⟨(some 46), .load (.t 45) 1 false, none⟩
  | 8 => ⟨(some 47), .bin .eql (.t 42) (.t 46), none⟩
  | 9 => ⟨(some 48), .mv (.t 47), none⟩
  | 10 => ⟨(some 49), .mv (.t 5), (some (48, true))⟩
  | 11 => ⟨(some 50), .mv (.t 10), (some (48, true))⟩
  | 12 => ⟨(some 51), .iaddr (.t 49) (.t 50) 1, (some (48, true))⟩
  | 13 => ⟨(some 52), .load (.t 51) 1 false, (some (48, true))⟩
  | 14 => ⟨(some 53), .mv (.t 5), (some (48, true))⟩
  | 15 => ⟨(some 54), .mv (.t 8), (some (48, true))⟩
  | 16 => ⟨(some 55), .iaddr (.t 53) (.t 54) 1, (some (48, true))⟩
  | 17 => ⟨(some 56), .load (.t 55) 1 false, (some (48, true))⟩
  | 18 => ⟨(some 57), .call (n_spec_l2Same) [(.t 52), (.t 56)], (some (48, true))⟩
  | 19 => ⟨(some 58), .pick (.t 48) (.t 57) (.c (.bool false)), none⟩
  | _ => ⟨none, .mkmap, none⟩
@[go_sem] def l60_21 (_ : Unit) : KL := [kA 59 (.mv (.t 10)),
  kB 9 (.mv (.t 59)) [1, 5, 7, 8, 9, 10]]
@[go_sem] def s60_22 (_ : Unit) : IR := (sQ [(.kd (oF l60_20 20) [(0, []), (1, []), (2, []), (3, []), (4, []), (5, []), (6, []), (7, []), (8, []), (9, []), (10, []), (11, []), (12, []), (13, []), (14, []), (15, []), (16, []), (17, []), (18, []), (19, [])] [1, 5, 7, 8, 9, 10, 58]), (.cond (.t 58) (kT l60_21) .skip)])
@[go_sem] def s60_23 (_ : Unit) : IR := (.block 5 (tH s60_22))
@[go_sem] def l60_24 (_ : Unit) : KL := [kA 37 (.mv (.t 10)),
  kA 38 (.bin .sub (.t 37) (cI 1)),
  kB 10 (.mv (.t 38)) [1, 5, 7, 8, 9, 10]]
@[go_sem] def s60_25 (_ : Unit) : IR := (sQ [(tH s60_19), (tH s60_23), (kT l60_24)])
@[go_sem] def s60_26 (_ : Unit) : IR := (.loop (tH s60_25))
@[go_sem] def s60_27 (_ : Unit) : IR := (.block 4 (tH s60_26))
@[go_sem] def s60_28 (_ : Unit) : IR := (sQ [(kT l60_17), (tH s60_27)])
@[go_sem] def l60_29 (_ : Unit) : KL := [kA 60 (.mv (.t 7)),
  kA 61 (.mv (.t 9)),
  kA 62 (.bslc 1 1 [(.int .i64 0)] [(0, (.t 61))]),
  kA 63 (.app 1 8 (.t 60) (.t 62)),
  kB 7 (.mv (.t 63)) [1, 5, 7, 8]]
@[go_sem] def s60_30 (_ : Unit) : IR := (sQ [(kT l60_16), (tH s60_28), (kT l60_29)])
@[go_sem] def s60_31 (_ : Unit) : IR := (.block 3 (tH s60_30))
@[go_sem] def l60_32 (_ : Unit) : KL := [kA 30 (.mv (.t 8)),
  kA 31 (.bin .add (.t 30) (cI 1)),
  kB 8 (.mv (.t 31)) [1, 5, 7, 8]]
@[go_sem] def s60_33 (_ : Unit) : IR := (sQ [(tH s60_15), (tH s60_31), (kT l60_32)])
@[go_sem] def s60_34 (_ : Unit) : IR := (.loop (tH s60_33))
@[go_sem] def s60_35 (_ : Unit) : IR := (.block 2 (tH s60_34))
@[go_sem] def s60_36 (_ : Unit) : IR := (sQ [(kT l60_13), (tH s60_35)])
@[go_sem] def l60_37 (_ : Unit) : KL := [kA 64 (.mv (.t 7)),
  kB 4 (.mv (.t 64)) [4]]
@[go_sem] def s60_38 (_ : Unit) : IR := (sQ [(kT l60_0), (kT l60_1), (tH s60_11), (kT l60_12), (tH s60_36), (kT l60_37), .ret])
theorem c60 : compFn Tryd.prog [(0, [], [oN, oS [1, 2]]), (1, [], [oN, oS [1, 2, 5]]), (2, [], [oS [1, 2, 5, 6]]), (3, [], [oN, oN, oN, oS [1, 2, 5, 6, 15]]), (5, [], [oN, oN, oN, oN, oS [1, 2, 6, 18, 22], oN, oN, oS [1, 2, 5, 6]]), (4, [], [oN, oN, oS [1, 2, 5, 6]]), (6, [], [oN, oS [1, 5, 7]]), (7, [], [oS [1, 5, 7, 8]]), (8, [], [oN, oN, oN, oS [1, 5, 7, 8, 29]]), (10, [], [oN, oS [1, 5, 7, 8, 9]]), (11, [], [oN, oN, oS [1, 5, 7, 8, 9, 10]]), (12, [], [oN, oS [1, 5, 7, 8, 9, 10, 36]]), (14, [(0, []), (1, []), (2, []), (3, []), (4, []), (5, []), (6, []), (7, []), (8, []), (9, []), (10, []), (11, []), (12, []), (13, []), (14, []), (15, []), (16, []), (17, []), (18, []), (19, [])], [oS [1, 5, 7, 8, 9, 10, 58]]), (15, [], [oN, oS [1, 5, 7, 8, 9, 10]]), (13, [], [oN, oN, oS [1, 5, 7, 8, 9, 10]]), (16, [], [oN, oN, oN, oN, oS [1, 5, 7, 8]]), (9, [], [oN, oN, oS [1, 5, 7, 8]]), (17, [], [oN, oS [4]])] Tryd.f60 = some ⟨2, 65, [.t 4], (tH s60_38)⟩ := by kernel_rfl
theorem v_spec_l25Round (hl : vs.length = 2) (h : wpV Tryd.prog (tH s60_38) (postV [.t 4] RV) (envV vs) M) : VCall Tryd.prog n_spec_l25Round vs M RV :=
  vcall_of_wp (fun _ _ _ hl h => acall_of_wp mixed Tryd.func60 c60 (by kernel_rfl) hl h) hl h
@[go_sem] def l30_0 (_ : Unit) : KL := [kA 1 (.box (.t 0)),
  kB 2 (.mv (.c (.sl none 0 0 true 0))) [1]]
@[go_sem] def l30_1 (_ : Unit) : KL := [kA 10 (.bslc 1 0 [(.int .i64 0)] []),
  kB 3 (.mv (.t 10)) [1, 3]]
@[go_sem] def l30_2 (_ : Unit) : KL := [kB 4 (.mv (cI 0)) [1, 3, 4]]
@[go_sem] def l30_3 (_ : Unit) : KL := [kA 11 (.mv (.t 4)),
  kA 12 (.faddr (.t 1) 0),
  kA 13 (.load (.t 12) 1 false),
  kA 14 (.len (.t 13)),
  kB 15 (.bin .lss (.t 11) (.t 14)) [1, 3, 4, 15]]
@[go_sem] def s30_4 (_ : Unit) : IR := (sQ [(kT l30_3), (.cond (.t 15) .skip (.exit 0))])
@[go_sem] def l30_5 (_ : Unit) : KL := [kA 18 (.mv (.t 4)),
  kB 5 (.mv (.t 18)) [1, 3, 4, 5]]
@[go_sem] def l30_6 (_ : Unit) : KL := [kA 19 (.mv (.t 4)),
  kA 20 (.bin .sub (.t 19) (cI 1)),
  kB 6 (.mv (.t 20)) [1, 3, 4, 5, 6]]
@[go_sem] def l30_7 (_ : Unit) : KL := [kA 21 (.mv (.t 6)),
  kB 22 (.bin .geq (.t 21) (cI 0)) [1, 3, 4, 5, 6, 22]]
@[go_sem] def s30_8 (_ : Unit) : IR := (sQ [(kT l30_7), (.cond (.t 22) .skip (.exit 2))])
@[go_sem] def l30_9 : Nat → GOp
  | 0 => ⟨(some 25), .faddr (.t 1) 0, none⟩
  | 1 => ⟨(some 26), .load (.t 25) 1 false, none⟩
  | 2 => ⟨(some 27), .mv (.t 6), none⟩
  | 3 => ⟨(some 28), .iaddr (.t 26) (.t 27) 1, none⟩
  | 4 => ⟨(some 29), .load (.t 28) 1 false, none⟩
  | 5 => ⟨(some 30), .faddr (.t 1) 0, none⟩
  | 6 => ⟨(some 31), .load (.t 30) 1 false, none⟩
  | 7 => ⟨(some 32), .mv (.t 4), none⟩
  | 8 => ⟨(some 33), .iaddr (.t 31) (.t 32) 1, none⟩
  | 9 => ⟨(some 34), .load (.t 33) 1 false, none⟩
  | 10 => ⟨(some 35), .call (n_spec_l2Same) [(.t 29), (.t 34)], none⟩
  | _ => ⟨none, .mkmap, none⟩
@[go_sem] def l30_10 (_ : Unit) : KL := [kA 36 (.mv (.t 6)),
  kB 5 (.mv (.t 36)) [1, 3, 4, 5, 6]]
@[go_sem] def s30_11 (_ : Unit) : IR := (sQ [(.kd (oF l30_9 11) [(0, []), (1, []), (2, []), (3, []), (4, []), (5, []), (6, []), (7, []), (8, []), (9, []), (10, [])] [1, 3, 4, 5, 6, 35]), (.cond (.t 35) (kT l30_10) .skip)])
@[go_sem] def s30_12 (_ : Unit) : IR := (.block 3 (tH s30_11))
@[go_sem] def l30_13 (_ : Unit) : KL := [kA 23 (.mv (.t 6)),
  kA 24 (.bin .sub (.t 23) (cI 1)),
  kB 6 (.mv (.t 24)) [1, 3, 4, 5, 6]]
@[go_sem] def s30_14 (_ : Unit) : IR := (sQ [(tH s30_8), (tH s30_12), (kT l30_13)])
@[go_sem] def s30_15 (_ : Unit) : IR := (.loop (tH s30_14))
@[go_sem] def s30_16 (_ : Unit) : IR := (.block 2 (tH s30_15))
@[go_sem] def s30_17 (_ : Unit) : IR := (sQ [(kT l30_6), (tH s30_16)])
@[go_sem] def l30_18 (_ : Unit) : KL := [kA 37 (.mv (.t 3)),
  kA 38 (.mv (.t 5)),
  kA 39 (.bslc 1 1 [(.int .i64 0)] [(0, (.t 38))]),
  kA 40 (.app 1 8 (.t 37) (.t 39)),
  kB 3 (.mv (.t 40)) [1, 3, 4]]
@[go_sem] def s30_19 (_ : Unit) : IR := (sQ [(kT l30_5), (tH s30_17), (kT l30_18)])
@[go_sem] def s30_20 (_ : Unit) : IR := (.block 1 (tH s30_19))
@[go_sem] def l30_21 (_ : Unit) : KL := [kA 16 (.mv (.t 4)),
  kA 17 (.bin .add (.t 16) (cI 1)),
  kB 4 (.mv (.t 17)) [1, 3, 4]]
@[go_sem] def s30_22 (_ : Unit) : IR := (sQ [(tH s30_4), (tH s30_20), (kT l30_21)])
@[go_sem] def s30_23 (_ : Unit) : IR := (.loop (tH s30_22))
@[go_sem] def s30_24 (_ : Unit) : IR := (.block 0 (tH s30_23))
@[go_sem] def s30_25 (_ : Unit) : IR := (sQ [(kT l30_2), (tH s30_24)])
@[go_sem] def l30_26 (_ : Unit) : KL := [kA 41 (.mv (.t 3)),
  kA 42 (.bslc 1 1 [(.sl none 0 0 true 0)] [(0, (.t 41))]),
  kB 7 (.mv (.t 42)) [1, 7]]
@[go_sem] def l30_27 (_ : Unit) : KL := [kB 8 (.mv (.c (.bool true))) [1, 7, 8]]
@[go_sem] def l30_28 (_ : Unit) : KL := [kB 43 (.mv (.t 8)) [1, 7, 43]]
@[go_sem] def s30_29 (_ : Unit) : IR := (sQ [(kT l30_28), (.cond (.t 43) .skip (.exit 4))])
@[go_sem] def l30_30 : Nat → GOp
  | 0 => ⟨(some 44), .load (.t 1) 3 true, none⟩
  | 1 => ⟨(some 45), .mv (.t 7), none⟩
  | 2 => ⟨(some 46), .mv (.t 7), none⟩
  | 3 => ⟨(some 47), .len (.t 46), none⟩
  | 4 => ⟨(some 48), .bin .sub (.t 47) (cI 1), none⟩
  | 5 => ⟨(some 49), .iaddr (.t 45) (.t 48) 1, none⟩
  | 6 => ⟨(some 50), .load (.t 49) 1 false, none⟩
  | 7 => ⟨(some 51), .call (n_spec_l25Round) [(.t 44), (.t 50)], none⟩
  | 8 => ⟨(some 9), .mv (.t 51), none⟩
  | _ => ⟨none, .mkmap, none⟩
@[go_sem] def l30_31 (_ : Unit) : KL := [kA 52 (.mv (.t 9)),
  kA 53 (.mv (.t 7)),
  kA 54 (.mv (.t 7)),
  kA 55 (.len (.t 54)),
  kB 56 (.bin .sub (.t 55) (cI 1)) [1, 7, 9, 52, 53, 56],
  kA 57 (.iaddr (.t 53) (.t 56) 1),
  kA 58 (.load (.t 57) 1 false),
  kA 59 (.call (n_spec_l2Same) [(.t 52), (.t 58)]),
  kA 60 (.un .not (.t 59)),
  kB 8 (.mv (.t 60)) [1, 7, 8, 9]]
@[go_sem] def l30_32 (_ : Unit) : KL := [kB 61 (.mv (.t 8)) [1, 7, 8, 9, 61]]
@[go_sem] def l30_33 (_ : Unit) : KL := [kA 62 (.mv (.t 7)),
  kA 63 (.mv (.t 9)),
  kA 64 (.bslc 1 1 [(.sl none 0 0 true 0)] [(0, (.t 63))]),
  kA 65 (.app 1 24 (.t 62) (.t 64)),
  kB 7 (.mv (.t 65)) [1, 7, 8]]
@[go_sem] def s30_34 (_ : Unit) : IR := (sQ [(.kd (oF l30_30 9) [(0, []), (1, []), (2, []), (3, []), (4, []), (5, []), (6, []), (7, []), (8, [])] [1, 7, 9]), (kT l30_31), (kT l30_32), (.cond (.t 61) (kT l30_33) .skip)])
@[go_sem] def s30_35 (_ : Unit) : IR := (.block 5 (tH s30_34))
@[go_sem] def s30_36 (_ : Unit) : IR := (sQ [(tH s30_29), (tH s30_35)])
@[go_sem] def s30_37 (_ : Unit) : IR := (.loop (tH s30_36))
@[go_sem] def s30_38 (_ : Unit) : IR := (.block 4 (tH s30_37))
@[go_sem] def s30_39 (_ : Unit) : IR := (sQ [(kT l30_27), (tH s30_38)])
@[go_sem] def l30_40 (_ : Unit) : KL := [kA 66 (.mv (.t 7)),
  kB 2 (.mv (.t 66)) [2]]
@[go_sem] def s30_41 (_ : Unit) : IR := (sQ [(kT l30_0), (kT l30_1), (tH s30_25), (kT l30_26), (tH s30_39), (kT l30_40), .ret])
theorem c30 : compFn Tryd.prog [(0, [], [oN, oS [1]]), (1, [], [oN, oS [1, 3]]), (2, [], [oS [1, 3, 4]]), (3, [], [oN, oN, oN, oN, oS [1, 3, 4, 15]]), (5, [], [oN, oS [1, 3, 4, 5]]), (6, [], [oN, oN, oS [1, 3, 4, 5, 6]]), (7, [], [oN, oS [1, 3, 4, 5, 6, 22]]), (9, [(0, []), (1, []), (2, []), (3, []), (4, []), (5, []), (6, []), (7, []), (8, []), (9, []), (10, [])], [oS [1, 3, 4, 5, 6, 35]]), (10, [], [oN, oS [1, 3, 4, 5, 6]]), (8, [], [oN, oN, oS [1, 3, 4, 5, 6]]), (11, [], [oN, oN, oN, oN, oS [1, 3, 4]]), (4, [], [oN, oN, oS [1, 3, 4]]), (12, [], [oN, oN, oS [1, 7]]), (13, [], [oS [1, 7, 8]]), (14, [], [oS [1, 7, 43]]), (15, [(0, []), (1, []), (2, []), (3, []), (4, []), (5, []), (6, []), (7, []), (8, [])], [oS [1, 7, 9]]), (16, [], [oN, oN, oN, oN, oS [1, 7, 9, 52, 53, 56], oN, oN, oN, oN, oS [1, 7, 8, 9]]), (17, [], [oS [1, 7, 8, 9, 61]]), (18, [], [oN, oN, oN, oN, oS [1, 7, 8]]), (19, [], [oN, oS [2]])] Tryd.f30 = some ⟨1, 67, [.t 2], (tH s30_41)⟩ := by kernel_rfl
theorem v_spec_l25Rounds (hl : vs.length = 1) (h : wpV Tryd.prog (tH s30_41) (postV [.t 2] RV) (envV vs) M) : VCall Tryd.prog n_spec_l25Rounds vs M RV :=
  vcall_of_wp (fun _ _ _ hl h => acall_of_wp mixed Tryd.func30 c30 (by kernel_rfl) hl h) hl h
@[go_sem] def l9_0 (_ : Unit) : KL := [kA 2 (.box (.t 0)),
  kB 4 (.mv (.c (.sl none 0 0 true 0))) [1, 2]]
@[go_sem] def l9_1 (_ : Unit) : KL := [kA 6 (.load (.t 2) 3 true),
  kA 7 (.mv (.t 1)),
  kA 8 (.call (n_spec_GraphValid) [(.t 6), (.t 7)]),
  kB 9 (.un .not (.t 8)) [2, 9]]
@[go_sem] def l9_2 (_ : Unit) : KL := [kB 4 (.mv (.c (.sl none 0 0 true 0))) [4]]
@[go_sem] def s9_3 (_ : Unit) : IR := (sQ [(kT l9_2), .ret])
@[go_sem] def s9_4 (_ : Unit) : IR := (sQ [(kT l9_1), (.cond (.t 9) (tH s9_3) .skip)])
@[go_sem] def l9_5 (_ : Unit) : KL := [kA 10 (.load (.t 2) 3 true),
  kA 11 (.call (n_spec_l25Rounds) [(.t 10)]),
  kB 5 (.mv (.t 11)) [5]]
@[go_sem] def l9_6 (_ : Unit) : KL := [kA 12 (.mv (.t 5)),
  kA 13 (.mv (.t 5)),
  kA 14 (.len (.t 13)),
  kA 15 (.bin .sub (.t 14) (cI 1)),
  kB 16 (.iaddr (.t 12) (.t 15) 1) [16],
  kA 17 (.load (.t 16) 1 false),
  kB 4 (.mv (.t 17)) [4]]
@[go_sem] def s9_7 (_ : Unit) : IR := (sQ [(kT l9_0), (tH s9_4), (kT l9_5), (kT l9_6), .ret])
theorem c9 : compFn Tryd.prog [(0, [], [oN, oS [1, 2]]), (1, [], [oN, oN, oN, oS [2, 9]]), (2, [], [oS [4]]), (3, [], [oN, oN, oS [5]]), (4, [], [oN, oN, oN, oN, oS [16], oN, oS [4]])] Tryd.f9 = some ⟨2, 18, [.t 4], (tH s9_7)⟩ := by kernel_rfl
theorem v_spec_AlikeIn (hl : vs.length = 2) (h : wpV Tryd.prog (tH s9_7) (postV [.t 4] RV) (envV vs) M) : VCall Tryd.prog n_spec_AlikeIn vs M RV :=
  vcall_of_wp (fun _ _ _ hl h => acall_of_wp mixed Tryd.func9 c9 (by kernel_rfl) hl h) hl h
@[go_sem] def l52_0 (_ : Unit) : KL := [kB 2 (.mv (.c (.sl none 0 0 true 0))) [0]]
@[go_sem] def l52_1 (_ : Unit) : KL := [kA 5 (.bslc 1 0 [(.int .i64 0)] []),
  kB 3 (.mv (.t 5)) [0, 3]]
@[go_sem] def l52_2 (_ : Unit) : KL := [kB 4 (.mv (cI 0)) [0, 3, 4]]
@[go_sem] def l52_3 (_ : Unit) : KL := [kA 6 (.mv (.t 4)),
  kA 7 (.mv (.t 0)),
  kA 8 (.len (.t 7)),
  kB 9 (.bin .lss (.t 6) (.t 8)) [0, 3, 4, 9]]
@[go_sem] def s52_4 (_ : Unit) : IR := (sQ [(kT l52_3), (.cond (.t 9) .skip (.exit 0))])
@[go_sem] def l52_5 (_ : Unit) : KL := [kA 12 (.mv (.t 3)),
  kA 13 (.mv (.t 0)),
  kA 14 (.mv (.t 4)),
  kA 15 (.iaddr (.t 13) (.t 14) 1),
  kB 16 (.load (.t 15) 1 false) [0, 4, 12, 16],
  kA 17 (.bslc 1 1 [(.int .i64 0)] [(0, (.t 16))]),
  kA 18 (.app 1 8 (.t 12) (.t 17)),
  kB 3 (.mv (.t 18)) [0, 3, 4]]
@[go_sem] def s52_6 (_ : Unit) : IR := (.block 1 (kT l52_5))
@[go_sem] def l52_7 (_ : Unit) : KL := [kA 10 (.mv (.t 4)),
  kA 11 (.bin .add (.t 10) (cI 1)),
  kB 4 (.mv (.t 11)) [0, 3, 4]]
@[go_sem] def s52_8 (_ : Unit) : IR := (sQ [(tH s52_4), (tH s52_6), (kT l52_7)])
@[go_sem] def s52_9 (_ : Unit) : IR := (.loop (tH s52_8))
@[go_sem] def s52_10 (_ : Unit) : IR := (.block 0 (tH s52_9))
@[go_sem] def s52_11 (_ : Unit) : IR := (sQ [(kT l52_2), (tH s52_10)])
@[go_sem] def l52_12 (_ : Unit) : KL := [kA 19 (.mv (.t 3)),
  kB 2 (.mv (.t 19)) [2]]
@[go_sem] def s52_13 (_ : Unit) : IR := (sQ [(kT l52_0), (kT l52_1), (tH s52_11), (kT l52_12), .ret])
theorem c52 : compFn Tryd.prog [(0, [], [oS [0]]), (1, [], [oN, oS [0, 3]]), (2, [], [oS [0, 3, 4]]), (3, [], [oN, oN, oN, oS [0, 3, 4, 9]]), (5, [], [oN, oN, oN, oN, oS [0, 4, 12, 16], oN, oN, oS [0, 3, 4]]), (4, [], [oN, oN, oS [0, 3, 4]]), (6, [], [oN, oS [2]])] Tryd.f52 = some ⟨1, 20, [.t 2], (tH s52_13)⟩ := by kernel_rfl
theorem v_spec_l3Copy (hl : vs.length = 1) (h : wpV Tryd.prog (tH s52_13) (postV [.t 2] RV) (envV vs) M) : VCall Tryd.prog n_spec_l3Copy vs M RV :=
  vcall_of_wp (fun _ _ _ hl h => acall_of_wp mixed Tryd.func52 c52 (by kernel_rfl) hl h) hl h
@[go_sem] def l25_0 (_ : Unit) : KL := [kA 2 (.box (.t 0)),
  kB 4 (.alloc [(.sl none 0 0 true 0), (.int .i64 0), (.sl none 0 0 true 0)]) [1, 2, 4]]
@[go_sem] def l25_1 (_ : Unit) : KL := [kA 13 (.load (.t 2) 3 true),
  kA 14 (.mv (.t 1)),
  kA 15 (.call (n_spec_AlikeIn) [(.t 13), (.t 14)]),
  kB 5 (.mv (.t 15)) [2, 4, 5]]
@[go_sem] def l25_2 (_ : Unit) : KL := [kA 16 (.bld [(.sl none 0 0 true 0), (.int .i64 0), (.sl none 0 0 true 0)] []),
  kA 6 (.alloc [(.sl none 0 0 true 0), (.int .i64 0), (.sl none 0 0 true 0)]),
  (⟨none, .store (.t 6) 3 (.t 16), none⟩, (some [2, 4, 5, 6]))]
@[go_sem] def l25_3 (_ : Unit) : KL := [kA 17 (.mv (.t 5)),
  kA 18 (.len (.t 17)),
  kB 19 (.bin .eql (.t 18) (cI 0)) [2, 4, 5, 6, 19]]
@[go_sem] def l25_4 (_ : Unit) : KL := [kA 20 (.load (.t 6) 3 true),
  (⟨none, .store (.t 4) 3 (.t 20), none⟩, (some [4]))]
@[go_sem] def s25_5 (_ : Unit) : IR := (sQ [(kT l25_4), .ret])
@[go_sem] def s25_6 (_ : Unit) : IR := (sQ [(kT l25_3), (.cond (.t 19) (tH s25_5) .skip)])
@[go_sem] def l25_7 (_ : Unit) : KL := [kA 21 (.bslc 1 0 [(.int .i64 0)] []),
  kB 7 (.mv (.t 21)) [2, 4, 5, 6, 7]]
@[go_sem] def l25_8 (_ : Unit) : KL := [kB 8 (.mv (cI 0)) [2, 4, 5, 6, 7, 8]]
@[go_sem] def l25_9 (_ : Unit) : KL := [kB 9 (.mv (cI 0)) [2, 4, 5, 6, 7, 8, 9]]
@[go_sem] def l25_10 (_ : Unit) : KL := [kA 22 (.mv (.t 9)),
  kA 23 (.mv (.t 5)),
  kA 24 (.len (.t 23)),
  kB 25 (.bin .lss (.t 22) (.t 24)) [2, 4, 5, 6, 7, 8, 9, 25]]
@[go_sem] def s25_11 (_ : Unit) : IR := (sQ [(kT l25_10), (.cond (.t 25) .skip (.exit 0))])
@[go_sem] def l25_12 (_ : Unit) : KL := [kA 28 (.mv (.t 5)),
  kA 29 (.mv (.t 9)),
  kA 30 (.iaddr (.t 28) (.t 29) 1),
  kA 31 (.load (.t 30) 1 false),
  kB 32 (.mv (.t 9)) [2, 4, 5, 6, 7, 8, 9, 31, 32],
  kB 33 (.bin .eql (.t 31) (.t 32)) [2, 4, 5, 6, 7, 8, 9, 33]]
@[go_sem] def l25_13 (_ : Unit) : KL := [kA 34 (.mv (.t 7)),
  kA 35 (.mv (.t 8)),
  kA 36 (.bslc 1 1 [(.int .i64 0)] [(0, (.t 35))]),
  kA 37 (.app 1 8 (.t 34) (.t 36)),
  kB 7 (.mv (.t 37)) [2, 4, 5, 6, 7, 8, 9]]
@[go_sem] def l25_14 (_ : Unit) : KL := [kA 38 (.mv (.t 8)),
  kA 39 (.bin .add (.t 38) (cI 1)),
  kB 8 (.mv (.t 39)) [2, 4, 5, 6, 7, 8, 9]]
@[go_sem] def s25_15 (_ : Unit) : IR := (sQ [(kT l25_13), (kT l25_14)])
@[go_sem] def l25_16 (_ : Unit) : KL := [kA 40 (.mv (.t 7)),
  kA 41 (.mv (.t 7)),
  kA 42 (.mv (.t 5)),
  kA 43 (.mv (.t 9)),
  kB 44 (.iaddr (.t 42) (.t 43) 1) [2, 4, 5, 6, 8, 9, 40, 41, 44],
  kA 45 (.load (.t 44) 1 false),
  kA 46 (.iaddr (.t 41) (.t 45) 1),
  kA 47 (.load (.t 46) 1 false),
  kA 48 (.bslc 1 1 [(.int .i64 0)] [(0, (.t 47))]),
  kB 49 (.app 1 8 (.t 40) (.t 48)) [2, 4, 5, 6, 8, 9, 49],
  kB 7 (.mv (.t 49)) [2, 4, 5, 6, 7, 8, 9]]
@[go_sem] def s25_17 (_ : Unit) : IR := (sQ [(kT l25_12), (.cond (.t 33) (tH s25_15) (kT l25_16))])
@[go_sem] def s25_18 (_ : Unit) : IR := (.block 1 (tH s25_17))
@[go_sem] def l25_19 (_ : Unit) : KL := [kA 26 (.mv (.t 9)),
  kA 27 (.bin .add (.t 26) (cI 1)),
  kB 9 (.mv (.t 27)) [2, 4, 5, 6, 7, 8, 9]]
@[go_sem] def s25_20 (_ : Unit) : IR := (sQ [(tH s25_11), (tH s25_18), (kT l25_19)])
@[go_sem] def s25_21 (_ : Unit) : IR := (.loop (tH s25_20))
@[go_sem] def s25_22 (_ : Unit) : IR := (.block 0 (tH s25_21))
@[go_sem] def s25_23 (_ : Unit) : IR := (sQ [(kT l25_9), (tH s25_22)])
@[go_sem] def l25_24 (_ : Unit) : KL := [kA 50 (.mv (.t 7)),
  kA 51 (.faddr (.t 2) 1),
  kA 52 (.load (.t 51) 1 false),
  kA 53 (.iaddr (.t 50) (.t 52) 1),
  kB 54 (.load (.t 53) 1 false) [2, 4, 5, 6, 7, 8, 54],
  kA 55 (.faddr (.t 6) 1),
  (⟨none, .store (.t 55) 1 (.t 54), none⟩, (some [2, 4, 5, 6, 7, 8]))]
@[go_sem] def l25_25 (_ : Unit) : KL := [kB 10 (.mv (cI 0)) [2, 4, 5, 6, 7, 8, 10]]
@[go_sem] def l25_26 (_ : Unit) : KL := [kA 56 (.mv (.t 10)),
  kA 57 (.mv (.t 5)),
  kA 58 (.len (.t 57)),
  kB 59 (.bin .lss (.t 56) (.t 58)) [2, 4, 5, 6, 7, 8, 10, 59]]
@[go_sem] def s25_27 (_ : Unit) : IR := (sQ [(kT l25_26), (.cond (.t 59) .skip (.exit 2))])
@[go_sem] def l25_28 (_ : Unit) : KL := [kA 62 (.mv (.t 5)),
  kA 63 (.mv (.t 10)),
  kA 64 (.iaddr (.t 62) (.t 63) 1),
  kA 65 (.load (.t 64) 1 false),
  kB 66 (.mv (.t 10)) [2, 4, 5, 6, 7, 8, 10, 65, 66],
  kB 67 (.bin .eql (.t 65) (.t 66)) [2, 4, 5, 6, 7, 8, 10, 67]]
@[go_sem] def l25_29 : Nat → GOp
  | 0 => ⟨(some 68), .faddr (.t 6) 0, none⟩
  | 1 => ⟨(some 69), .load (.t 68) 1 false, none⟩
  | 2 => ⟨(some 70), .faddr (.t 2) 0, none⟩
  | 3 => ⟨(some 71), .load (.t 70) 1 false, none⟩
  | 4 => ⟨(some 72), .mv (.t 10), none⟩
  | 5 => ⟨(some 73), .iaddr (.t 71) (.t 72) 1, none⟩
  | 6 => ⟨(some 74), .load (.t 73) 1 false, none⟩
  | 7 => ⟨(some 75), .call (n_spec_l3Copy) [(.t 74)], none⟩
  | 8 => ⟨(some 76), .bslc 1 1 [(.sl none 0 0 true 0)] [(0, (.t 75))], none⟩
  | 9 => ⟨(some 77), .app 1 24 (.t 69) (.t 76), none⟩
  | 10 => ⟨(some 78), .faddr (.t 6) 0, none⟩
  | 11 => ⟨none, .store (.t 78) 1 (.t 77), none⟩
  | _ => ⟨none, .mkmap, none⟩
@[go_sem] def l25_30 (_ : Unit) : KL := [kA 79 (.mv (.t 8)),
  kA 80 (.mks [(.bool false)] 1 (.t 79)),
  kB 11 (.mv (.t 80)) [2, 4, 5, 6, 7, 8, 10, 11]]
@[go_sem] def l25_31 (_ : Unit) : KL := [kB 12 (.mv (cI 0)) [2, 4, 5, 6, 7, 8, 10, 11, 12]]
@[go_sem] def l25_32 (_ : Unit) : KL := [kA 81 (.mv (.t 12)),
  kA 82 (.faddr (.t 2) 2),
  kA 83 (.load (.t 82) 1 false),
  kA 84 (.mv (.t 10)),
  kB 85 (.iaddr (.t 83) (.t 84) 1) [2, 4, 5, 6, 7, 8, 10, 11, 12, 81, 85],
  kA 86 (.load (.t 85) 1 false),
  kA 87 (.len (.t 86)),
  kB 88 (.bin .lss (.t 81) (.t 87)) [2, 4, 5, 6, 7, 8, 10, 11, 12, 88]]
@[go_sem] def s25_33 (_ : Unit) : IR := (sQ [(kT l25_32), (.cond (.t 88) .skip (.exit 4))])
@[go_sem] def l25_34 (_ : Unit) : KL := [kA 91 (.mv (.t 11)),
  kA 92 (.mv (.t 7)),
  kA 93 (.faddr (.t 2) 2),
  kA 94 (.load (.t 93) 1 false),
  kB 95 (.mv (.t 10)) [2, 4, 5, 6, 7, 8, 10, 11, 12, 91, 92, 94, 95],
  kA 96 (.iaddr (.t 94) (.t 95) 1),
  kA 97 (.load (.t 96) 1 false),
  kA 98 (.mv (.t 12)),
  kA 99 (.iaddr (.t 97) (.t 98) 1),
  kB 100 (.load (.t 99) 1 false) [2, 4, 5, 6, 7, 8, 10, 11, 12, 91, 92, 100],
  kA 101 (.iaddr (.t 92) (.t 100) 1),
  kA 102 (.load (.t 101) 1 false),
  kA 103 (.iaddr (.t 91) (.t 102) 1),
  (⟨none, .store (.t 103) 1 (.c (.bool true)), none⟩, (some [2, 4, 5, 6, 7, 8, 10, 11, 12]))]
@[go_sem] def s25_35 (_ : Unit) : IR := (.block 5 (kT l25_34))
@[go_sem] def l25_36 (_ : Unit) : KL := [kA 89 (.mv (.t 12)),
  kA 90 (.bin .add (.t 89) (cI 1)),
  kB 12 (.mv (.t 90)) [2, 4, 5, 6, 7, 8, 10, 11, 12]]
@[go_sem] def s25_37 (_ : Unit) : IR := (sQ [(tH s25_33), (tH s25_35), (kT l25_36)])
@[go_sem] def s25_38 (_ : Unit) : IR := (.loop (tH s25_37))
@[go_sem] def s25_39 (_ : Unit) : IR := (.block 4 (tH s25_38))
@[go_sem] def s25_40 (_ : Unit) : IR := (sQ [(kT l25_31), (tH s25_39)])
@[go_sem] def l25_41 : Nat → GOp
  | 0 => ⟨(some 104), .faddr (.t 6) 2, none⟩
  | 1 => ⟨(some 105), .load (.t 104) 1 false, none⟩
  | 2 => ⟨(some 106), .mv (.t 11), none⟩
  | 3 => ⟨(some 107), .call (n_spec_l4List) [(.t 106)], none⟩
  | 4 => ⟨(some 108), .bslc 1 1 [(.sl none 0 0 true 0)] [(0, (.t 107))], none⟩
  | 5 => ⟨(some 109), .app 1 24 (.t 105) (.t 108), none⟩
  | 6 => ⟨(some 110), .faddr (.t 6) 2, none⟩
  | 7 => ⟨none, .store (.t 110) 1 (.t 109), none⟩
  | _ => ⟨none, .mkmap, none⟩
@[go_sem] def s25_42 (_ : Unit) : IR := (sQ [(.kd (oF l25_29 12) [(0, []), (1, []), (2, []), (3, []), (4, []), (5, []), (6, []), (7, [1]), (8, []), (9, []), (10, []), (11, [])] [2, 4, 5, 6, 7, 8, 10]), (kT l25_30), (tH s25_40), (.kd (oF l25_41 8) [(0, []), (1, []), (2, []), (3, [1]), (4, []), (5, []), (6, []), (7, [])] [2, 4, 5, 6, 7, 8, 10])])
@[go_sem] def s25_43 (_ : Unit) : IR := (sQ [(kT l25_28), (.cond (.t 67) (tH s25_42) .skip)])
@[go_sem] def s25_44 (_ : Unit) : IR := (.block 3 (tH s25_43))
@[go_sem] def l25_45 (_ : Unit) : KL := [kA 60 (.mv (.t 10)),
  kA 61 (.bin .add (.t 60) (cI 1)),
  kB 10 (.mv (.t 61)) [2, 4, 5, 6, 7, 8, 10]]
@[go_sem] def s25_46 (_ : Unit) : IR := (sQ [(tH s25_27), (tH s25_44), (kT l25_45)])
@[go_sem] def s25_47 (_ : Unit) : IR := (.loop (tH s25_46))
@[go_sem] def s25_48 (_ : Unit) : IR := (.block 2 (tH s25_47))
@[go_sem] def s25_49 (_ : Unit) : IR := (sQ [(kT l25_25), (tH s25_48)])
@[go_sem] def l25_50 (_ : Unit) : KL := [kA 111 (.load (.t 6) 3 true),
  (⟨none, .store (.t 4) 3 (.t 111), none⟩, (some [4]))]
@[go_sem] def s25_51 (_ : Unit) : IR := (sQ [(kT l25_0), (kT l25_1), (kT l25_2), (tH s25_6), (kT l25_7), (kT l25_8), (tH s25_23), (kT l25_24), (tH s25_49), (kT l25_50), .ret])
theorem c25 : compFn Tryd.prog [(0, [], [oN, oS [1, 2, 4]]), (1, [], [oN, oN, oN, oS [2, 4, 5]]), (2, [], [oN, oN, oS [2, 4, 5, 6]]), (3, [], [oN, oN, oS [2, 4, 5, 6, 19]]), (4, [], [oN, oS [4]]), (5, [], [oN, oS [2, 4, 5, 6, 7]]), (6, [], [oS [2, 4, 5, 6, 7, 8]]), (7, [], [oS [2, 4, 5, 6, 7, 8, 9]]), (8, [], [oN, oN, oN, oS [2, 4, 5, 6, 7, 8, 9, 25]]), (10, [], [oN, oN, oN, oN, oS [2, 4, 5, 6, 7, 8, 9, 31, 32], oS [2, 4, 5, 6, 7, 8, 9, 33]]), (11, [], [oN, oN, oN, oN, oS [2, 4, 5, 6, 7, 8, 9]]), (12, [], [oN, oN, oS [2, 4, 5, 6, 7, 8, 9]]), (13, [], [oN, oN, oN, oN, oS [2, 4, 5, 6, 8, 9, 40, 41, 44], oN, oN, oN, oN, oS [2, 4, 5, 6, 8, 9, 49], oS [2, 4, 5, 6, 7, 8, 9]]), (9, [], [oN, oN, oS [2, 4, 5, 6, 7, 8, 9]]), (14, [], [oN, oN, oN, oN, oS [2, 4, 5, 6, 7, 8, 54], oN, oS [2, 4, 5, 6, 7, 8]]), (15, [], [oS [2, 4, 5, 6, 7, 8, 10]]), (16, [], [oN, oN, oN, oS [2, 4, 5, 6, 7, 8, 10, 59]]), (18, [], [oN, oN, oN, oN, oS [2, 4, 5, 6, 7, 8, 10, 65, 66], oS [2, 4, 5, 6, 7, 8, 10, 67]]), (19, [(0, []), (1, []), (2, []), (3, []), (4, []), (5, []), (6, []), (7, [1]), (8, []), (9, []), (10, []), (11, [])], [oS [2, 4, 5, 6, 7, 8, 10]]), (20, [], [oN, oN, oS [2, 4, 5, 6, 7, 8, 10, 11]]), (21, [], [oS [2, 4, 5, 6, 7, 8, 10, 11, 12]]), (22, [], [oN, oN, oN, oN, oS [2, 4, 5, 6, 7, 8, 10, 11, 12, 81, 85], oN, oN, oS [2, 4, 5, 6, 7, 8, 10, 11, 12, 88]]), (24, [], [oN, oN, oN, oN, oS [2, 4, 5, 6, 7, 8, 10, 11, 12, 91, 92, 94, 95], oN, oN, oN, oN, oS [2, 4, 5, 6, 7, 8, 10, 11, 12, 91, 92, 100], oN, oN, oN, oS [2, 4, 5, 6, 7, 8, 10, 11, 12]]), (23, [], [oN, oN, oS [2, 4, 5, 6, 7, 8, 10, 11, 12]]), (25, [(0, []), (1, []), (2, []), (3, [1]), (4, []), (5, []), (6, []), (7, [])], [oS [2, 4, 5, 6, 7, 8, 10]]), (17, [], [oN, oN, oS [2, 4, 5, 6, 7, 8, 10]]), (26, [], [oN, oS [4]])] Tryd.f25 = some ⟨2, 112, [.c 4 3 true], (tH s25_51)⟩ := by kernel_rfl
theorem v_spec_FoldedGraph (hl : vs.length = 2) (h : wpV Tryd.prog (tH s25_51) (postV [.c 4 3 true] RV) (envV vs) M) : VCall Tryd.prog n_spec_FoldedGraph vs M RV :=
  vcall_of_wp (fun _ _ _ hl h => acall_of_wp mixed Tryd.func25 c25 (by kernel_rfl) hl h) hl h
@[go_sem] def l11_0 (_ : Unit) : KL := [kA 2 (.box (.t 0)),
  kB 4 (.mv (.c (.sl none 0 0 true 0))) [1, 2]]
@[go_sem] def l11_1 (_ : Unit) : KL := [kA 5 (.load (.t 2) 3 true),
  kA 6 (.mv (.t 1)),
  kA 7 (.call (n_impl_GraphValid) [(.t 5), (.t 6)]),
  kB 8 (.un .not (.t 7)) [2, 8]]
@[go_sem] def l11_2 (_ : Unit) : KL := [kB 4 (.mv (.c (.sl none 0 0 true 0))) [4]]
@[go_sem] def s11_3 (_ : Unit) : IR := (sQ [(kT l11_2), .ret])
@[go_sem] def s11_4 (_ : Unit) : IR := (sQ [(kT l11_1), (.cond (.t 8) (tH s11_3) .skip)])
@[go_sem] def l11_5 (_ : Unit) : KL := [kA 9 (.load (.t 2) 3 true),
  kA 10 (.call (n_impl_alike) [(.t 9)]),
  kA 11 (.call (n_impl_clone_int) [(.t 10)]),
  kB 4 (.mv (.t 11)) [4]]
@[go_sem] def s11_6 (_ : Unit) : IR := (sQ [(kT l11_0), (tH s11_4), (kT l11_5), .ret])
theorem c11 : compFn Tryd.prog [(0, [], [oN, oS [1, 2]]), (1, [], [oN, oN, oN, oS [2, 8]]), (2, [], [oS [4]]), (3, [], [oN, oN, oN, oS [4]])] Tryd.f11 = some ⟨2, 12, [.t 4], (tH s11_6)⟩ := by kernel_rfl
theorem v_impl_AlikeIn (hl : vs.length = 2) (h : wpV Tryd.prog (tH s11_6) (postV [.t 4] RV) (envV vs) M) : VCall Tryd.prog n_impl_AlikeIn vs M RV :=
  vcall_of_wp (fun _ _ _ hl h => acall_of_wp mixed Tryd.func11 c11 (by kernel_rfl) hl h) hl h
@[go_sem] def l22_0 (_ : Unit) : KL := [kB 4 (.mv (.c (.bool false))) [0, 1]]
@[go_sem] def l22_1 (_ : Unit) : KL := [kA 7 (.mv (.t 0)),
  kA 8 (.len (.t 7)),
  kA 9 (.mv (.t 1)),
  kA 10 (.len (.t 9)),
  kB 11 (.bin .neq (.t 8) (.t 10)) [0, 1, 11]]
@[go_sem] def l22_2 (_ : Unit) : KL := [kB 4 (.mv (.c (.bool false))) [4]]
@[go_sem] def s22_3 (_ : Unit) : IR := (sQ [(kT l22_2), .ret])
@[go_sem] def s22_4 (_ : Unit) : IR := (sQ [(kT l22_1), (.cond (.t 11) (tH s22_3) .skip)])
@[go_sem] def l22_5 (_ : Unit) : KL := [kA 12 (.mv (.t 0)),
  kA 13 (.len (.t 12)),
  kB 14 (.mv (cI 0)) [1, 12, 13, 14]]
@[go_sem] def l22_6 (_ : Unit) : KL := [kB 15 (.bin .lss (.t 14) (.t 13)) [1, 12, 13, 14, 15]]
@[go_sem] def l22_7 (_ : Unit) : KL := [kA 16 (.mv (.t 14)),
  kA 17 (.iaddr (.t 12) (.t 14) 1),
  kA 18 (.load (.t 17) 1 false),
  kA 5 (.mv (.t 16)),
  kB 6 (.mv (.t 18)) [1, 5, 6, 12, 13, 14]]
@[go_sem] def l22_8 (_ : Unit) : KL := [kA 19 (.mv (.t 1)),
  kA 20 (.mv (.t 5)),
  kA 21 (.iaddr (.t 19) (.t 20) 1),
  kA 22 (.load (.t 21) 1 false),
  kB 23 (.mv (.t 6)) [1, 12, 13, 14, 22, 23],
  kB 24 (.bin .neq (.t 22) (.t 23)) [1, 12, 13, 14, 24]]
@[go_sem] def l22_9 (_ : Unit) : KL := [kB 4 (.mv (.c (.bool false))) [4]]
@[go_sem] def s22_10 (_ : Unit) : IR := (sQ [(kT l22_9), .ret])
@[go_sem] def s22_11 (_ : Unit) : IR := (sQ [(kT l22_7), (kT l22_8), (.cond (.t 24) (tH s22_10) .skip)])
@[go_sem] def s22_12 (_ : Unit) : IR := (.block 1 (tH s22_11))
@[go_sem] def l22_13 (_ : Unit) : KL := [kA 25 (.bin .add (.t 14) (cI 1)),
  kB 14 (.mv (.t 25)) [1, 12, 13, 14]]
@[go_sem] def s22_14 (_ : Unit) : IR := (sQ [(kT l22_6), (.cond (.t 15) .skip (.exit 0)), (tH s22_12), (kT l22_13)])
@[go_sem] def s22_15 (_ : Unit) : IR := (.loop (tH s22_14))
@[go_sem] def s22_16 (_ : Unit) : IR := (.block 0 (tH s22_15))
@[go_sem] def s22_17 (_ : Unit) : IR := (sQ [(kT l22_5), (tH s22_16)])
@[go_sem] def l22_18 (_ : Unit) : KL := [kB 4 (.mv (.c (.bool true))) [4]]
@[go_sem] def s22_19 (_ : Unit) : IR := (sQ [(kT l22_0), (tH s22_4), (tH s22_17), (kT l22_18), .ret])
theorem c22 : compFn Tryd.prog [(0, [], [oS [0, 1]]), (1, [], [oN, oN, oN, oN, oS [0, 1, 11]]), (2, [], [oS [4]]), (3, [], [oN, oN, oS [1, 12, 13, 14]]), (4, [], [oS [1, 12, 13, 14, 15]]), (5, [], [oN, oN, oN, oN, oS [1, 5, 6, 12, 13, 14]]), (6, [], [oN, oN, oN, oN, oS [1, 12, 13, 14, 22, 23], oS [1, 12, 13, 14, 24]]), (7, [], [oS [4]]), (8, [], [oN, oS [1, 12, 13, 14]]), (9, [], [oS [4]])] Tryd.f22 = some ⟨2, 26, [.t 4], (tH s22_19)⟩ := by kernel_rfl
theorem v_laws_wcInts (hl : vs.length = 2) (h : wpV Tryd.prog (tH s22_19) (postV [.t 4] RV) (envV vs) M) : VCall Tryd.prog n_laws_wcInts vs M RV :=
  vcall_of_wp (fun _ _ _ hl h => acall_of_wp mixed Tryd.func22 c22 (by kernel_rfl) hl h) hl h
@[go_sem] def l64_0 (_ : Unit) : KL := [kB 4 (.mv (.c (.sl none 0 0 true 0))) [0, 1]]
@[go_sem] def l64_1 (_ : Unit) : KL := [kA 5 (.mv (.t 1)),
  kB 6 (.bin .lss (.t 5) (cI 0)) [0, 1, 6]]
@[go_sem] def l64_2 (_ : Unit) : KL := [kA 7 (.bad),
  (⟨none, .bad, none⟩, (some [0, 1]))]
@[go_sem] def s64_3 (_ : Unit) : IR := (sQ [(kT l64_1), (.cond (.t 6) (kT l64_2) .skip)])
@[go_sem] def l64_4 (_ : Unit) : KL := [kA 8 (.mv (.t 1)),
  kA 9 (.mv (.t 0)),
  kA 10 (.cap (.t 9)),
  kA 11 (.mv (.t 0)),
  kB 12 (.len (.t 11)) [0, 8, 10, 12],
  kA 13 (.bin .sub (.t 10) (.t 12)),
  kA 14 (.bin .sub (.t 8) (.t 13)),
  kB 1 (.mv (.t 14)) [0, 1]]
@[go_sem] def l64_5 (_ : Unit) : KL := [kA 15 (.mv (.t 1)),
  kB 16 (.bin .gtr (.t 15) (cI 0)) [0, 1, 16]]
@[go_sem] def l64_6 (_ : Unit) : KL := [kA 17 (.mv (.t 0)),
  kA 18 (.mv (.t 0)),
  kA 19 (.cap (.t 18)),
  kA 20 (.slc 1 (.t 17) none (some (.t 19)) none),
  kB 21 (.mv (.t 1)) [0, 20, 21],
  kA 22 (.appz [(.sl none 0 0 true 0)] 24 (.t 20) (.t 21)),
  kA 23 (.mv (.t 0)),
  kA 24 (.len (.t 23)),
  kA 25 (.slc 1 (.t 22) none (some (.t 24)) none),
  kB 0 (.mv (.t 25)) [0]]
@[go_sem] def s64_7 (_ : Unit) : IR := (sQ [(kT l64_4), (kT l64_5), (.cond (.t 16) (kT l64_6) .skip)])
@[go_sem] def l64_8 (_ : Unit) : KL := [kA 26 (.mv (.t 0)),
  kB 4 (.mv (.t 26)) [4]]
@[go_sem] def s64_9 (_ : Unit) : IR := (sQ [(kT l64_0), (tH s64_3), (tH s64_7), (kT l64_8), .ret])
theorem c64 : compFn Tryd.prog [(0, [], [oS [0, 1]]), (1, [], [oN, oS [0, 1, 6]]), (2, [], [oN, oS [0, 1]]), (3, [], [oN, oN, oN, oN, oS [0, 8, 10, 12], oN, oN, oS [0, 1]]), (4, [], [oN, oS [0, 1, 16]]), (5, [], [oN, oN, oN, oN, oS [0, 20, 21], oN, oN, oN, oN, oS [0]]), (6, [], [oN, oS [4]])] Tryd.f64 = some ⟨2, 27, [.t 4], (tH s64_9)⟩ := by kernel_rfl
theorem v_slices_Grow_SSint_Sint (hl : vs.length = 2) (h : wpV Tryd.prog (tH s64_9) (postV [.t 4] RV) (envV vs) M) : VCall Tryd.prog n_slices_Grow_SSint_Sint vs M RV :=
  vcall_of_wp (fun _ _ _ hl h => acall_of_wp mixed Tryd.func64 c64 (by kernel_rfl) hl h) hl h
@[go_sem] def l37_0 (_ : Unit) : KL := [kB 2 (.mv (.c (.sl none 0 0 true 0))) [0]]
@[go_sem] def l37_1 (_ : Unit) : KL := [kB 3 (.mv (cI 0)) [0, 3]]
@[go_sem] def l37_2 (_ : Unit) : KL := [kA 9 (.mv (.t 0)),
  kA 10 (.len (.t 9)),
  kB 11 (.mv (cI 0)) [0, 3, 9, 10, 11]]
@[go_sem] def l37_3 (_ : Unit) : KL := [kB 12 (.bin .lss (.t 11) (.t 10)) [0, 3, 9, 10, 11, 12]]
@[go_sem] def l37_4 (_ : Unit) : KL := [kA 13 (.iaddr (.t 9) (.t 11) 1),
  kA 14 (.load (.t 13) 1 false),
  kB 5 (.mv (.t 14)) [0, 3, 5, 9, 10, 11]]
@[go_sem] def l37_5 (_ : Unit) : KL := [kA 15 (.mv (.t 3)),
  kA 16 (.mv (.t 5)),
  kA 17 (.len (.t 16)),
  kA 18 (.bin .add (.t 15) (.t 17)),
  kB 3 (.mv (.t 18)) [0, 3, 9, 10, 11]]
@[go_sem] def l37_6 (_ : Unit) : KL := [kA 19 (.mv (.t 3)),
  kB 20 (.bin .lss (.t 19) (cI 0)) [0, 3, 9, 10, 11, 20]]
@[go_sem] def l37_7 (_ : Unit) : KL := [kA 21 (.bad),
  (⟨none, .bad, none⟩, (some [0, 3, 9, 10, 11]))]
@[go_sem] def s37_8 (_ : Unit) : IR := (sQ [(kT l37_4), (kT l37_5), (kT l37_6), (.cond (.t 20) (kT l37_7) .skip)])
@[go_sem] def s37_9 (_ : Unit) : IR := (.block 1 (tH s37_8))
@[go_sem] def l37_10 (_ : Unit) : KL := [kA 22 (.bin .add (.t 11) (cI 1)),
  kB 11 (.mv (.t 22)) [0, 3, 9, 10, 11]]
@[go_sem] def s37_11 (_ : Unit) : IR := (sQ [(kT l37_3), (.cond (.t 12) .skip (.exit 0)), (tH s37_9), (kT l37_10)])
@[go_sem] def s37_12 (_ : Unit) : IR := (.loop (tH s37_11))
@[go_sem] def s37_13 (_ : Unit) : IR := (.block 0 (tH s37_12))
@[go_sem] def s37_14 (_ : Unit) : IR := (sQ [(kT l37_2), (tH s37_13)])
@[go_sem] def l37_15 (_ : Unit) : KL := [kA 23 (.mv (.t 3)),
  kA 24 (.call (n_slices_Grow_SSint_Sint) [(.c (.sl none 0 0 true 0)), (.t 23)]),
  kB 6 (.mv (.t 24)) [0, 6]]
@[go_sem] def l37_16 (_ : Unit) : KL := [kA 25 (.mv (.t 0)),
  kA 26 (.len (.t 25)),
  kB 27 (.mv (cI 0)) [6, 25, 26, 27]]
@[go_sem] def l37_17 (_ : Unit) : KL := [kB 28 (.bin .lss (.t 27) (.t 26)) [6, 25, 26, 27, 28]]
@[go_sem] def l37_18 (_ : Unit) : KL := [kA 29 (.iaddr (.t 25) (.t 27) 1),
  kA 30 (.load (.t 29) 1 false),
  kB 8 (.mv (.t 30)) [6, 8, 25, 26, 27]]
@[go_sem] def l37_19 (_ : Unit) : KL := [kA 31 (.mv (.t 6)),
  kA 32 (.mv (.t 8)),
  kA 33 (.app 1 24 (.t 31) (.t 32)),
  kB 6 (.mv (.t 33)) [6, 25, 26, 27]]
@[go_sem] def s37_20 (_ : Unit) : IR := (sQ [(kT l37_18), (kT l37_19)])
@[go_sem] def s37_21 (_ : Unit) : IR := (.block 3 (tH s37_20))
@[go_sem] def l37_22 (_ : Unit) : KL := [kA 34 (.bin .add (.t 27) (cI 1)),
  kB 27 (.mv (.t 34)) [6, 25, 26, 27]]
@[go_sem] def s37_23 (_ : Unit) : IR := (sQ [(kT l37_17), (.cond (.t 28) .skip (.exit 2)), (tH s37_21), (kT l37_22)])
@[go_sem] def s37_24 (_ : Unit) : IR := (.loop (tH s37_23))
@[go_sem] def s37_25 (_ : Unit) : IR := (.block 2 (tH s37_24))
@[go_sem] def s37_26 (_ : Unit) : IR := (sQ [(kT l37_16), (tH s37_25)])
@[go_sem] def l37_27 (_ : Unit) : KL := [kA 35 (.mv (.t 6)),
  kB 2 (.mv (.t 35)) [2]]
@[go_sem] def s37_28 (_ : Unit) : IR := (sQ [(kT l37_0), (kT l37_1), (tH s37_14), (kT l37_15), (tH s37_26), (kT l37_27), .ret])
theorem c37 : compFn Tryd.prog [(0, [], [oS [0]]), (1, [], [oS [0, 3]]), (2, [], [oN, oN, oS [0, 3, 9, 10, 11]]), (3, [], [oS [0, 3, 9, 10, 11, 12]]), (4, [], [oN, oN, oS [0, 3, 5, 9, 10, 11]]), (5, [], [oN, oN, oN, oN, oS [0, 3, 9, 10, 11]]), (6, [], [oN, oS [0, 3, 9, 10, 11, 20]]), (7, [], [oN, oS [0, 3, 9, 10, 11]]), (8, [], [oN, oS [0, 3, 9, 10, 11]]), (9, [], [oN, oN, oS [0, 6]]), (10, [], [oN, oN, oS [6, 25, 26, 27]]), (11, [], [oS [6, 25, 26, 27, 28]]), (12, [], [oN, oN, oS [6, 8, 25, 26, 27]]), (13, [], [oN, oN, oN, oS [6, 25, 26, 27]]), (14, [], [oN, oS [6, 25, 26, 27]]), (15, [], [oN, oS [2]])] Tryd.f37 = some ⟨1, 36, [.t 2], (tH s37_28)⟩ := by kernel_rfl
theorem v_slices_Concat_SSint_Sint (hl : vs.length = 1) (h : wpV Tryd.prog (tH s37_28) (postV [.t 2] RV) (envV vs) M) : VCall Tryd.prog n_slices_Concat_SSint_Sint vs M RV :=
  vcall_of_wp (fun _ _ _ hl h => acall_of_wp mixed Tryd.func37 c37 (by kernel_rfl) hl h) hl h
@[go_sem] def l38_0 (_ : Unit) : KL := [kB 2 (.mv (.c (.sl none 0 0 true 0))) [0]]
@[go_sem] def l38_1 (_ : Unit) : KL := [kA 3 (.mv (.t 0)),
  kB 4 (.eqn false .sl (.t 3)) [0, 4]]
@[go_sem] def l38_2 (_ : Unit) : KL := [kB 2 (.mv (.c (.sl none 0 0 true 0))) [2]]
@[go_sem] def s38_3 (_ : Unit) : IR := (sQ [(kT l38_2), .ret])
@[go_sem] def s38_4 (_ : Unit) : IR := (sQ [(kT l38_1), (.cond (.t 4) (tH s38_3) .skip)])
@[go_sem] def l38_5 (_ : Unit) : KL := [kA 5 (.bslc 1 0 [(.sl none 0 0 true 0)] []),
  kA 6 (.mv (.t 0)),
  kA 7 (.app 1 24 (.t 5) (.t 6)),
  kB 2 (.mv (.t 7)) [2]]
@[go_sem] def s38_6 (_ : Unit) : IR := (sQ [(kT l38_0), (tH s38_4), (kT l38_5), .ret])
theorem c38 : compFn Tryd.prog [(0, [], [oS [0]]), (1, [], [oN, oS [0, 4]]), (2, [], [oS [2]]), (3, [], [oN, oN, oN, oS [2]])] Tryd.f38 = some ⟨1, 8, [.t 2], (tH s38_6)⟩ := by kernel_rfl
theorem v_slices_Clone_SSint_Sint (hl : vs.length = 1) (h : wpV Tryd.prog (tH s38_6) (postV [.t 2] RV) (envV vs) M) : VCall Tryd.prog n_slices_Clone_SSint_Sint vs M RV :=
  vcall_of_wp (fun _ _ _ hl h => acall_of_wp mixed Tryd.func38 c38 (by kernel_rfl) hl h) hl h
@[go_sem] def l18_0 (_ : Unit) : KL := [kA 3 (.box (.t 0)),
  kA 4 (.box (.t 1)),
  kB 6 (.mv (.c (.bool false))) [2, 3, 4]]
@[go_sem] def l18_1 (_ : Unit) : KL := [kA 15 (.load (.t 3) 3 true),
  kA 16 (.mv (.t 2)),
  kA 17 (.call (n_impl_GraphValid) [(.t 15), (.t 16)]),
  kA 18 (.un .not (.t 17)),
  kB 19 (.mv (.t 18)) [2, 3, 4, 19],
  (⟨(some 20), .load (.t 4) 3 true, (some (19, false))⟩, none),
  (⟨(some 21), .mv (.t 2), (some (19, false))⟩, none),
  (⟨(some 22), .call (n_impl_GraphValid) [(.t 20), (.t 21)], (some (19, false))⟩, none),
  (⟨(some 23), .un .not (.t 22), (some (19, false))⟩, none),
  kB 24 (.pick (.t 19) (.c (.bool true)) (.t 23)) [3, 4, 24],
  kA 25 (.mv (.t 24)),
  (⟨(some 26), .faddr (.t 3) 0, (some (25, false))⟩, none),
  (⟨(some 27), .load (.t 26) 1 false, (some (25, false))⟩, none),
  (⟨(some 28), .len (.t 27), (some (25, false))⟩, none),
  (⟨(some 29), .faddr (.t 4) 0, (some (25, false))⟩, (some [3, 4, 25, 28, 29])),
  (⟨(some 30), .load (.t 29) 1 false, (some (25, false))⟩, none),
  (⟨(some 31), .len (.t 30), (some (25, false))⟩, none),
  (⟨(some 32), .bin .add (.t 28) (.t 31), (some (25, false))⟩, none),
  (⟨(some 33), .bin .gtr (.t 32) (.c (.int .i64 400)), (some (25, false))⟩, none),
  kB 34 (.pick (.t 25) (.c (.bool true)) (.t 33)) [3, 4, 34]]
@[go_sem] def l18_2 (_ : Unit) : KL := [kB 6 (.mv (.c (.bool false))) [6]]
@[go_sem] def s18_3 (_ : Unit) : IR := (sQ [(kT l18_2), .ret])
@[go_sem] def s18_4 (_ : Unit) : IR := (sQ [(kT l18_1), (.cond (.t 34) (tH s18_3) .skip)])
@[go_sem] def l18_5 (_ : Unit) : KL := [kA 35 (.faddr (.t 3) 0),
  kA 36 (.load (.t 35) 1 false),
  kA 37 (.len (.t 36)),
  kB 7 (.mv (.t 37)) [3, 4, 7]]
@[go_sem] def l18_6 : Nat → GOp
  | 0 => ⟨(some 38), .faddr (.t 3) 0, none⟩
  | 1 => ⟨(some 39), .load (.t 38) 1 false, none⟩
  | 2 => ⟨(some 40), .faddr (.t 4) 0, none⟩
  | 3 => ⟨(some 41), .load (.t 40) 1 false, none⟩
  | 4 => ⟨(some 42), .bslc 1 2 [(.sl none 0 0 true 0)] [(0, (.t 39)), (1, (.t 41))], none⟩
  | 5 => ⟨(some 43), .call (n_slices_Concat_SSint_Sint) [(.t 42)], none⟩
  | 6 => ⟨(some 44), .faddr (.t 3) 2, none⟩
  | 7 => ⟨(some 45), .load (.t 44) 1 false, none⟩
  | 8 => ⟨(some 46), .call (n_slices_Clone_SSint_Sint) [(.t 45)], none⟩
  | 9 => ⟨(some 47), .bld [(.sl none 0 0 true 0), (.int .i64 0), (.sl none 0 0 true 0)] [(0, 1, (.t 43)), (2, 1, (.t 46))], none⟩
  | 10 => ⟨(some 8), .alloc [(.sl none 0 0 true 0), (.int .i64 0), (.sl none 0 0 true 0)], none⟩
  | 11 => ⟨none, .store (.t 8) 3 (.t 47), none⟩
  | _ => ⟨none, .mkmap, none⟩
@[go_sem] def l18_7 (_ : Unit) : KL := [kA 48 (.faddr (.t 4) 2),
  kA 49 (.load (.t 48) 1 false),
  kA 50 (.len (.t 49)),
  kB 51 (.mv (cI 0)) [3, 4, 7, 8, 49, 50, 51]]
@[go_sem] def l18_8 (_ : Unit) : KL := [kB 52 (.bin .lss (.t 51) (.t 50)) [3, 4, 7, 8, 49, 50, 51, 52]]
@[go_sem] def l18_9 (_ : Unit) : KL := [kA 53 (.iaddr (.t 49) (.t 51) 1),
  kA 54 (.load (.t 53) 1 false),
  kB 10 (.mv (.t 54)) [3, 4, 7, 8, 10, 49, 50, 51]]
@[go_sem] def l18_10 (_ : Unit) : KL := [kB 11 (.mv (.c (.sl none 0 0 true 0))) [3, 4, 7, 8, 10, 11, 49, 50, 51]]
@[go_sem] def l18_11 (_ : Unit) : KL := [kA 55 (.mv (.t 10)),
  kA 56 (.len (.t 55)),
  kB 57 (.mv (cI 0)) [3, 4, 7, 8, 11, 49, 50, 51, 55, 56, 57]]
@[go_sem] def l18_12 (_ : Unit) : KL := [kB 58 (.bin .lss (.t 57) (.t 56)) [3, 4, 7, 8, 11, 49, 50, 51, 55, 56, 57, 58]]
@[go_sem] def l18_13 (_ : Unit) : KL := [kA 59 (.iaddr (.t 55) (.t 57) 1),
  kA 60 (.load (.t 59) 1 false),
  kB 13 (.mv (.t 60)) [3, 4, 7, 8, 11, 13, 49, 50, 51, 55, 56, 57]]
@[go_sem] def l18_14 (_ : Unit) : KL := [kA 61 (.mv (.t 11)),
  kA 62 (.mv (.t 13)),
  kA 63 (.mv (.t 7)),
  kA 64 (.bin .add (.t 62) (.t 63)),
  kB 65 (.bslc 1 1 [(.int .i64 0)] [(0, (.t 64))]) [3, 4, 7, 8, 49, 50, 51, 55, 56, 57, 61, 65],
  kA 66 (.app 1 8 (.t 61) (.t 65)),
  kB 11 (.mv (.t 66)) [3, 4, 7, 8, 11, 49, 50, 51, 55, 56, 57]]
@[go_sem] def s18_15 (_ : Unit) : IR := (sQ [(kT l18_13), (kT l18_14)])
@[go_sem] def s18_16 (_ : Unit) : IR := (.block 3 (tH s18_15))
@[go_sem] def l18_17 (_ : Unit) : KL := [kA 67 (.bin .add (.t 57) (cI 1)),
  kB 57 (.mv (.t 67)) [3, 4, 7, 8, 11, 49, 50, 51, 55, 56, 57]]
@[go_sem] def s18_18 (_ : Unit) : IR := (sQ [(kT l18_12), (.cond (.t 58) .skip (.exit 2)), (tH s18_16), (kT l18_17)])
@[go_sem] def s18_19 (_ : Unit) : IR := (.loop (tH s18_18))
@[go_sem] def s18_20 (_ : Unit) : IR := (.block 2 (tH s18_19))
@[go_sem] def s18_21 (_ : Unit) : IR := (sQ [(kT l18_11), (tH s18_20)])
@[go_sem] def l18_22 (_ : Unit) : KL := [kA 68 (.faddr (.t 8) 2),
  kA 69 (.load (.t 68) 1 false),
  kA 70 (.mv (.t 11)),
  kA 71 (.bslc 1 1 [(.sl none 0 0 true 0)] [(0, (.t 70))]),
  kB 72 (.app 1 24 (.t 69) (.t 71)) [3, 4, 7, 8, 49, 50, 51, 72],
  kA 73 (.faddr (.t 8) 2),
  (⟨none, .store (.t 73) 1 (.t 72), none⟩, (some [3, 4, 7, 8, 49, 50, 51]))]
@[go_sem] def s18_23 (_ : Unit) : IR := (sQ [(kT l18_9), (kT l18_10), (tH s18_21), (kT l18_22)])
@[go_sem] def s18_24 (_ : Unit) : IR := (.block 1 (tH s18_23))
@[go_sem] def l18_25 (_ : Unit) : KL := [kA 74 (.bin .add (.t 51) (cI 1)),
  kB 51 (.mv (.t 74)) [3, 4, 7, 8, 49, 50, 51]]
@[go_sem] def s18_26 (_ : Unit) : IR := (sQ [(kT l18_8), (.cond (.t 52) .skip (.exit 0)), (tH s18_24), (kT l18_25)])
@[go_sem] def s18_27 (_ : Unit) : IR := (.loop (tH s18_26))
@[go_sem] def s18_28 (_ : Unit) : IR := (.block 0 (tH s18_27))
@[go_sem] def s18_29 (_ : Unit) : IR := (sQ [(kT l18_7), (tH s18_28)])
@[go_sem] def l18_30 (_ : Unit) : KL := [kA 75 (.load (.t 8) 3 true),
  kA 76 (.call (n_impl_alike) [(.t 75)]),
  kB 14 (.mv (.t 76)) [3, 4, 7, 14]]
@[go_sem] def l18_31 : Nat → GOp
  | 0 => ⟨(some 77), .mv (.t 14), none⟩
  | 1 => ⟨(some 78), .faddr (.t 3) 1, none⟩
  | 2 => ⟨(some 79), .load (.t 78) 1 false, none⟩
  | 3 => ⟨(some 80), .iaddr (.t 77) (.t 79) 1, none⟩
  | 4 => ⟨(some 81), .load (.t 80) 1 false, none⟩
  | 5 => ⟨(some 82), .mv (.t 14), none⟩
  | 6 => ⟨(some 83), .faddr (.t 4) 1, none⟩
  | 7 => ⟨(some 84), .load (.t 83) 1 false, none⟩
  | 8 => ⟨(some 85), .mv (.t 7), none⟩
  | 9 => ⟨(some 86), .bin .add (.t 84) (.t 85), none⟩
  | 10 => ⟨(some 87), .iaddr (.t 82) (.t 86) 1, none⟩
  | 11 => ⟨(some 88), .load (.t 87) 1 false, none⟩
  | 12 => ⟨(some 89), .bin .eql (.t 81) (.t 88), none⟩
  | 13 => ⟨(some 6), .mv (.t 89), none⟩
  | _ => ⟨none, .mkmap, none⟩
@[go_sem] def s18_32 (_ : Unit) : IR := (sQ [(kT l18_0), (tH s18_4), (kT l18_5), (.kd (oF l18_6 12) [(0, []), (1, []), (2, []), (3, []), (6, []), (7, []), (4, []), (5, [7]), (8, []), (9, []), (10, []), (11, [])] [3, 4, 7, 8]), (tH s18_29), (kT l18_30), (.kd (oF l18_31 14) [(0, []), (1, []), (2, []), (3, []), (4, []), (5, []), (6, []), (7, []), (8, []), (9, []), (10, []), (11, []), (12, []), (13, [])] [6]), .ret])
theorem c18 : compFn Tryd.prog [(0, [], [oN, oN, oS [2, 3, 4]]), (1, [], [oN, oN, oN, oN, oS [2, 3, 4, 19], oN, oN, oN, oN, oS [3, 4, 24], oN, oN, oN, oN, oS [3, 4, 25, 28, 29], oN, oN, oN, oN, oS [3, 4, 34]]), (2, [], [oS [6]]), (3, [], [oN, oN, oN, oS [3, 4, 7]]), (4, [(0, []), (1, []), (2, []), (3, []), (6, []), (7, []), (4, []), (5, [7]), (8, []), (9, []), (10, []), (11, [])], [oS [3, 4, 7, 8]]), (5, [], [oN, oN, oN, oS [3, 4, 7, 8, 49, 50, 51]]), (6, [], [oS [3, 4, 7, 8, 49, 50, 51, 52]]), (7, [], [oN, oN, oS [3, 4, 7, 8, 10, 49, 50, 51]]), (8, [], [oS [3, 4, 7, 8, 10, 11, 49, 50, 51]]), (9, [], [oN, oN, oS [3, 4, 7, 8, 11, 49, 50, 51, 55, 56, 57]]), (10, [], [oS [3, 4, 7, 8, 11, 49, 50, 51, 55, 56, 57, 58]]), (11, [], [oN, oN, oS [3, 4, 7, 8, 11, 13, 49, 50, 51, 55, 56, 57]]), (12, [], [oN, oN, oN, oN, oS [3, 4, 7, 8, 49, 50, 51, 55, 56, 57, 61, 65], oN, oS [3, 4, 7, 8, 11, 49, 50, 51, 55, 56, 57]]), (13, [], [oN, oS [3, 4, 7, 8, 11, 49, 50, 51, 55, 56, 57]]), (14, [], [oN, oN, oN, oN, oS [3, 4, 7, 8, 49, 50, 51, 72], oN, oS [3, 4, 7, 8, 49, 50, 51]]), (15, [], [oN, oS [3, 4, 7, 8, 49, 50, 51]]), (16, [], [oN, oN, oS [3, 4, 7, 14]]), (17, [(0, []), (1, []), (2, []), (3, []), (4, []), (5, []), (6, []), (7, []), (8, []), (9, []), (10, []), (11, []), (12, []), (13, [])], [oS [6]])] Tryd.f18 = some ⟨3, 90, [.t 6], (tH s18_32)⟩ := by kernel_rfl
theorem v_impl_SameGraphs (hl : vs.length = 3) (h : wpV Tryd.prog (tH s18_32) (postV [.t 6] RV) (envV vs) M) : VCall Tryd.prog n_impl_SameGraphs vs M RV :=
  vcall_of_wp (fun _ _ _ hl h => acall_of_wp mixed Tryd.func18 c18 (by kernel_rfl) hl h) hl h
@[go_sem] def l6_0 (_ : Unit) : KL := [kB 2 (.mv (.c (.bool false))) [0]]
@[go_sem] def l6_1 (_ : Unit) : KL := [kA 9 (.mv (.t 0)),
  kA 10 (.len (.t 9)),
  kB 11 (.bin .gtr (.t 10) (cI 1048576)) [0, 11]]
@[go_sem] def l6_2 (_ : Unit) : KL := [kB 2 (.mv (.c (.bool true))) [2]]
@[go_sem] def s6_3 (_ : Unit) : IR := (sQ [(kT l6_2), .ret])
@[go_sem] def s6_4 (_ : Unit) : IR := (sQ [(kT l6_1), (.cond (.t 11) (tH s6_3) .skip)])
@[go_sem] def l6_5 (_ : Unit) : KL := [kA 13 (.mv (.t 0)),
  kA 14 (.call (n_spec_DrawFoldedGraph) [(.t 13)]),
  kA 12 (.mv (.t 14)),
  kA 15 (.ext (.t 12) 0),
  kB 16 (.ext (.t 12) 1) [15, 16],
  kA 3 (.alloc [(.sl none 0 0 true 0), (.int .i64 0), (.sl none 0 0 true 0)]),
  (⟨none, .store (.t 3) 3 (.t 15), none⟩, none),
  kB 4 (.mv (.t 16)) [3, 4]]
@[go_sem] def l6_6 (_ : Unit) : KL := [kA 17 (.load (.t 3) 3 true),
  kA 18 (.mv (.t 4)),
  kA 19 (.call (n_impl_FoldedGraph) [(.t 17), (.t 18)]),
  kA 5 (.alloc [(.sl none 0 0 true 0), (.int .i64 0), (.sl none 0 0 true 0)]),
  (⟨none, .store (.t 5) 3 (.t 19), none⟩, (some [3, 4, 5]))]
@[go_sem] def l6_7 (_ : Unit) : KL := [kA 20 (.load (.t 3) 3 true),
  kA 21 (.mv (.t 4)),
  kA 22 (.call (n_spec_FoldedGraph) [(.t 20), (.t 21)]),
  kA 6 (.alloc [(.sl none 0 0 true 0), (.int .i64 0), (.sl none 0 0 true 0)]),
  (⟨none, .store (.t 6) 3 (.t 22), none⟩, (some [3, 4, 5, 6]))]
@[go_sem] def l6_8 : Nat → GOp
  | 0 => ⟨(some 23), .faddr (.t 5) 2, none⟩
  | 1 => ⟨(some 24), .load (.t 23) 1 false, none⟩
  | 2 => ⟨(some 25), .len (.t 24), none⟩
  | 3 => ⟨(some 26), .faddr (.t 6) 2, none⟩
  | 4 => ⟨(some 27), .load (.t 26) 1 false, none⟩
  | 5 => ⟨(some 28), .len (.t 27), none⟩
  | 6 => ⟨(some 29), .bin .neq (.t 25) (.t 28), none⟩
  | 7 => ⟨(some 30), .mv (.t 29), none⟩
  | 8 => ⟨(some 31), .load (.t 3) 3 true, (some (30, false))⟩
  | 9 => ⟨(some 32), .mv (.t 4), (some (30, false))⟩
  | 10 => ⟨(some 33), .call (n_impl_GraphValid) [(.t 31), (.t 32)], (some (30, false))⟩
  | 11 => ⟨(some 34), .load (.t 3) 3 true, (some (30, false))⟩
  | 12 => ⟨(some 35), .mv (.t 4), (some (30, false))⟩
  | 13 => ⟨(some 36), .call (n_spec_GraphValid) [(.t 34), (.t 35)], (some (30, false))⟩
  | 14 => ⟨(some 37), .beq true (.t 33) (.t 36), (some (30, false))⟩
  | 15 => ⟨(some 38), .pick (.t 30) (.c (.bool true)) (.t 37), none⟩
  | _ => ⟨none, .mkmap, none⟩
@[go_sem] def l6_9 (_ : Unit) : KL := [kB 2 (.mv (.c (.bool false))) [2]]
@[go_sem] def s6_10 (_ : Unit) : IR := (sQ [(kT l6_9), .ret])
@[go_sem] def s6_11 (_ : Unit) : IR := (sQ [(.kd (oF l6_8 16) [(0, []), (1, []), (2, []), (3, []), (4, []), (5, []), (6, []), (7, []), (8, []), (9, []), (11, []), (12, []), (10, [11]), (13, []), (14, []), (15, [])] [3, 4, 5, 6, 38]), (.cond (.t 38) (tH s6_10) .skip)])
@[go_sem] def l6_12 (_ : Unit) : KL := [kA 39 (.faddr (.t 5) 2),
  kA 40 (.load (.t 39) 1 false),
  kA 41 (.len (.t 40)),
  kB 42 (.bin .eql (.t 41) (cI 0)) [3, 4, 5, 6, 42]]
@[go_sem] def l6_13 (_ : Unit) : KL := [kA 43 (.load (.t 3) 3 true),
  kA 44 (.mv (.t 4)),
  kA 45 (.call (n_impl_GraphValid) [(.t 43), (.t 44)]),
  kA 46 (.un .not (.t 45)),
  kB 2 (.mv (.t 46)) [2]]
@[go_sem] def s6_14 (_ : Unit) : IR := (sQ [(kT l6_13), .ret])
@[go_sem] def s6_15 (_ : Unit) : IR := (sQ [(kT l6_12), (.cond (.t 42) (tH s6_14) .skip)])
@[go_sem] def l6_16 (_ : Unit) : KL := [kA 47 (.load (.t 5) 3 true),
  kA 48 (.mv (.t 4)),
  kA 49 (.call (n_impl_AlikeIn) [(.t 47), (.t 48)]),
  kA 50 (.len (.t 49)),
  kB 51 (.mv (cI 0)) [3, 4, 5, 6, 49, 50, 51]]
@[go_sem] def l6_17 (_ : Unit) : KL := [kB 52 (.bin .lss (.t 51) (.t 50)) [3, 4, 5, 6, 49, 50, 51, 52]]
@[go_sem] def l6_18 (_ : Unit) : KL := [kA 53 (.mv (.t 51)),
  kA 54 (.iaddr (.t 49) (.t 51) 1),
  kA 55 (.load (.t 54) 1 false),
  kA 7 (.mv (.t 53)),
  kB 8 (.mv (.t 55)) [3, 4, 5, 6, 7, 8, 49, 50, 51]]
@[go_sem] def l6_19 : Nat → GOp
  | 0 => ⟨(some 56), .mv (.t 8), none⟩
  | 1 => ⟨(some 57), .mv (.t 7), none⟩
  | 2 => ⟨(some 58), .bin .neq (.t 56) (.t 57), none⟩
  | 3 => ⟨(some 59), .mv (.t 58), none⟩
  | 4 => ⟨(some 60), .faddr (.t 5) 2, (some (59, false))⟩
  | 5 => ⟨(some 61), .load (.t 60) 1 false, (some (59, false))⟩
  | 6 => ⟨(some 62), .mv (.t 7), (some (59, false))⟩
  | 7 => ⟨(some 63), .iaddr (.t 61) (.t 62) 1, (some (59, false))⟩
  | 8 => ⟨(some 64), .load (.t 63) 1 false, (some (59, false))⟩
  | 9 => ⟨(some 65), .faddr (.t 6) 2, (some (59, false))⟩
  | 10 => ⟨(some 66), .load (.t 65) 1 false, (some (59, false))⟩
  | 11 => ⟨(some 67), .mv (.t 7), (some (59, false))⟩
  | 12 => ⟨(some 68), .iaddr (.t 66) (.t 67) 1, (some (59, false))⟩
  | 13 => ⟨(some 69), .load (.t 68) 1 false, (some (59, false))⟩
  | 14 => ⟨(some 70), .call (n_laws_wcInts) [(.t 64), (.t 69)], (some (59, false))⟩
  | 15 => ⟨(some 71), .un .not (.t 70), (some (59, false))⟩
  | 16 => ⟨(some 72), .pick (.t 59) (.c (.bool true)) (.t 71), none⟩
  | _ => ⟨none, .mkmap, none⟩
@[go_sem] def l6_20 (_ : Unit) : KL := [kB 2 (.mv (.c (.bool false))) [2]]
@[go_sem] def s6_21 (_ : Unit) : IR := (sQ [(kT l6_20), .ret])
@[go_sem] def s6_22 (_ : Unit) : IR := (sQ [(kT l6_18), (.kd (oF l6_19 17) [(0, []), (1, []), (2, []), (3, []), (4, []), (5, []), (6, []), (7, []), (8, []), (9, []), (10, []), (11, []), (12, []), (13, []), (14, []), (15, []), (16, [])] [3, 4, 5, 6, 49, 50, 51, 72]), (.cond (.t 72) (tH s6_21) .skip)])
@[go_sem] def s6_23 (_ : Unit) : IR := (.block 1 (tH s6_22))
@[go_sem] def l6_24 (_ : Unit) : KL := [kA 73 (.bin .add (.t 51) (cI 1)),
  kB 51 (.mv (.t 73)) [3, 4, 5, 6, 49, 50, 51]]
@[go_sem] def s6_25 (_ : Unit) : IR := (sQ [(kT l6_17), (.cond (.t 52) .skip (.exit 0)), (tH s6_23), (kT l6_24)])
@[go_sem] def s6_26 (_ : Unit) : IR := (.loop (tH s6_25))
@[go_sem] def s6_27 (_ : Unit) : IR := (.block 0 (tH s6_26))
@[go_sem] def s6_28 (_ : Unit) : IR := (sQ [(kT l6_16), (tH s6_27)])
@[go_sem] def l6_29 (_ : Unit) : KL := [kA 74 (.load (.t 5) 3 true),
  kA 75 (.mv (.t 4)),
  kA 76 (.call (n_impl_GraphValid) [(.t 74), (.t 75)]),
  kA 77 (.mv (.t 76)),
  (⟨(some 78), .load (.t 3) 3 true, (some (77, true))⟩, (some [4, 5, 77, 78])),
  (⟨(some 79), .load (.t 5) 3 true, (some (77, true))⟩, none),
  (⟨(some 80), .mv (.t 4), (some (77, true))⟩, none),
  (⟨(some 81), .call (n_impl_SameGraphs) [(.t 78), (.t 79), (.t 80)], (some (77, true))⟩, none),
  kA 82 (.pick (.t 77) (.t 81) (.c (.bool false))),
  kB 2 (.mv (.t 82)) [2]]
@[go_sem] def s6_30 (_ : Unit) : IR := (sQ [(kT l6_0), (tH s6_4), (kT l6_5), (kT l6_6), (kT l6_7), (tH s6_11), (tH s6_15), (tH s6_28), (kT l6_29), .ret])
theorem c6 : compFn Tryd.prog [(0, [], [oS [0]]), (1, [], [oN, oN, oS [0, 11]]), (2, [], [oS [2]]), (3, [], [oN, oN, oN, oN, oS [15, 16], oN, oN, oS [3, 4]]), (4, [], [oN, oN, oN, oN, oS [3, 4, 5]]), (5, [], [oN, oN, oN, oN, oS [3, 4, 5, 6]]), (6, [(0, []), (1, []), (2, []), (3, []), (4, []), (5, []), (6, []), (7, []), (8, []), (9, []), (11, []), (12, []), (10, [11]), (13, []), (14, []), (15, [])], [oS [3, 4, 5, 6, 38]]), (7, [], [oS [2]]), (8, [], [oN, oN, oN, oS [3, 4, 5, 6, 42]]), (9, [], [oN, oN, oN, oN, oS [2]]), (10, [], [oN, oN, oN, oN, oS [3, 4, 5, 6, 49, 50, 51]]), (11, [], [oS [3, 4, 5, 6, 49, 50, 51, 52]]), (12, [], [oN, oN, oN, oN, oS [3, 4, 5, 6, 7, 8, 49, 50, 51]]), (13, [(0, []), (1, []), (2, []), (3, []), (4, []), (5, []), (6, []), (7, []), (8, []), (9, []), (10, []), (11, []), (12, []), (13, []), (14, []), (15, []), (16, [])], [oS [3, 4, 5, 6, 49, 50, 51, 72]]), (14, [], [oS [2]]), (15, [], [oN, oS [3, 4, 5, 6, 49, 50, 51]]), (16, [], [oN, oN, oN, oN, oS [4, 5, 77, 78], oN, oN, oN, oN, oS [2]])] Tryd.f6 = some ⟨1, 83, [.t 2], (tH s6_30)⟩ := by kernel_rfl
theorem v_laws_FnFolded (hl : vs.length = 1) (h : wpV Tryd.prog (tH s6_30) (postV [.t 2] RV) (envV vs) M) : VCall Tryd.prog n_laws_FnFolded vs M RV :=
  vcall_of_wp (fun _ _ _ hl h => acall_of_wp mixed Tryd.func6 c6 (by kernel_rfl) hl h) hl h
end Go.M2

namespace Go.M2
open Go.Proofs Go.Shelf Go.Sort
variable {w0 w : World} {ρ : Nat → BI} {H : Heap}
theorem HI.growA : ∀ (l : List Obj) {w : World}, HI w0 ρ H w → HI w0 ρ H (Sort.grow w l.toArray) ∧ Evol ρ H w ρ H (Sort.grow w l.toArray)
  | [], w, h => by
    have e : Sort.grow w ([] : List Obj).toArray = w := Sort.grow_empty w
    rw [e]; exact ⟨h, Evol.refl _ _ _⟩
  | o :: t, w, h => by
    have e : Sort.grow w (o :: t).toArray = Sort.grow (w.alloc o) t.toArray := by
      rw [Sort.alloc_eq_grow, Sort.grow_grow]
      congr 1
      simp
    rw [e]
    obtain ⟨h1, h2⟩ := HI.growA t (h.grow o)
    exact ⟨h1, (Evol.grow ρ H w o).trans h2⟩
theorem take_set_drop {α : Type} {ys zs : List α} (hl : ys.length = zs.length) {k : Nat} (hk : k < ys.length) : (ys.take k ++ zs.drop k).set k ys[k] = ys.take (k + 1) ++ zs.drop (k + 1) := by
  rw [List.set_append_right _ _ (by simp; omega), List.length_take, Nat.min_eq_left (by omega), Nat.sub_self, List.drop_eq_getElem_cons (by omega : k < zs.length), List.set_cons_zero, List.take_succ_eq_append_getElem hk, List.append_assoc]
  rfl
theorem HI.putInts {b : Nat} {zs : List Int} {rest : List AV} (h : HI w0 ρ H w) (hb : b < H.size) (hblk : H.blk b = .cells (zs.map (AV.int .i64) ++ rest) true) {ys : List Int} (hl : ys.length = zs.length) :
    ∀ k, k ≤ ys.length → HI w0 ρ (H.upd b (.cells ((ys.take k ++ zs.drop k).map (AV.int .i64) ++ rest) true)) (Sort.putRow (Value.int .i64) w (ρ b).blk (ρ b).off (ys.take k ++ zs.drop k).toArray) ∧
      Evol ρ H w ρ (H.upd b (.cells ((ys.take k ++ zs.drop k).map (AV.int .i64) ++ rest) true)) (Sort.putRow (Value.int .i64) w (ρ b).blk (ρ b).off (ys.take k ++ zs.drop k).toArray)
  | 0, _ => by
    simp only [List.take_zero, List.drop_zero, List.nil_append]
    have e : H.upd b (.cells (zs.map (AV.int .i64) ++ rest) true) = H := by
      cases H with
      | mk n f =>
        simp only [Heap.upd, Heap.mk.injEq, true_and]
        funext b'
        split
        · rename_i e; subst e; exact hblk.symm
        · rfl
    obtain ⟨o1, o2, cs, t, o3, o4⟩ := h.own b _ hb hblk
    have e2 : Sort.putRow (Value.int .i64) w (ρ b).blk (ρ b).off zs.toArray = w := by
      refine Sort.mapBlock_id w _ _ fun c e fr hc => ?_
      rw [o3] at hc
      cases hc
      apply Array.ext_getElem?
      intro k
      simp only [Sort.putCells, Array.getElem?_mapIdx]
      cases hk : cs[k]? with
      | none => rfl
      | some y =>
        simp only [Option.map_some]
        split
        · rename_i hr
          obtain ⟨r1, r2⟩ := hr
          have hz : k - (ρ b).off < zs.length := by simpa using (by omega : k - (ρ b).off < zs.toArray.size)
          obtain ⟨v, hv, hr⟩ := h.cell b _ true hb hblk (k - (ρ b).off) (AV.int .i64 (zs[k - (ρ b).off]'hz)) (by
            rw [List.getElem?_append_left (by simpa using hz)]; simp [hz])
          rw [show (ρ b).off + (k - (ρ b).off) = k by omega] at hv
          simp only [World.cell?, o3] at hv
          have hv : cs[k]? = .some v := by simpa using hv
          rw [hk] at hv
          cases hv
          cases hr
          rw [getElem!_pos _ _ (by simpa using hz)]
          simp
        · rfl
    rw [e, e2]; exact ⟨h, Evol.refl _ _ _⟩
  | k + 1, hk => by
    obtain ⟨h1, h2⟩ := HI.putInts h hb hblk hl k (by omega)
    have hk' : k < ys.length := hk
    have hsz := (h1.own b _ hb (Heap.upd_blk_same _ _ _)).2.1
    have hst := take_set_drop hl hk'
    have hlen : (ys.take k ++ zs.drop k).length = ys.length := by simp; omega
    have h3 := h1.write (c := ((ys.take k ++ zs.drop k).map (AV.int .i64) ++ rest)) hb (Heap.upd_blk_same _ _ _) k (by simp at hsz; omega) ((ys.take (k + 1) ++ zs.drop (k + 1)).map (AV.int .i64) ++ rest) (by simp at hsz ⊢; omega) (.int .i64 ys[k])
      (fun j y hy hj => by
        rw [← hst, List.map_set, ← List.set_append_left _ _ (by simp; omega), List.getElem?_set_ne (by omega)] at hy
        exact hy)
      (fun y hy => by
        rw [← hst, List.map_set, ← List.set_append_left _ _ (by simp; omega), List.getElem?_set_self (by simp; omega)] at hy
        cases hy; exact .int _ _)
    have hd : (ys.take k ++ zs.drop k).toArray.setIfInBounds k ys[k] = (ys.take (k + 1) ++ zs.drop (k + 1)).toArray := by rw [← hst]; simp
    have hp := Sort.putRow_set (Value.int .i64) w (ρ b).blk (ρ b).off (ys.take k ++ zs.drop k).toArray k ys[k] (by simp; omega)
    rw [hd] at hp
    obtain ⟨_, _, h4, h5⟩ := h3
    rw [hp, Heap.upd_upd] at h4 h5
    exact ⟨h4, h2.trans h5⟩
def sortI (zs : List Int) : List Int := zs.mergeSort fun x y => decide (x ≤ y)
theorem sortI_len {zs : List Int} : (sortI zs).length = zs.length := by simp [sortI]
theorem a_Sort {P : Program} {rn : Ren} (Ly : Lays.n189 P rn) (hcb : callable P (rn.f 189) = true) {b n c : Nat} {ex : Bool} {zs : List Int} {rest : List AV}
    (hb : H.rwCells b = .some (zs.map (AV.int .i64) ++ rest)) (hn : n = zs.length) (h62 : zs.length < 4611686018427387904) :
    ACall P (rn.f 189) [.sl (some (b, 0)) n c ex 1] H (fun r H' => r = .tup [] ∧ H' = H.upd b (.cells ((sortI zs).map (AV.int .i64) ++ rest) true)) := by
  subst hn
  obtain ⟨hbs, hblk⟩ := Heap.rwCells_blk hb
  refine ⟨hcb, fun w0 ρ w vs hi hvs => ?_⟩
  obtain ⟨v, t, rfl, hv, ht⟩ := hvs.uncons
  have := ht.unnil; subst this
  generalize hq : (AV.sl (some (b, 0)) zs.length c ex 1) = q at hv
  cases hv <;> cases hq
  rename_i c' h1 h2 h3 h4 h5
  obtain ⟨o1, o2, cs, t, o3, o4⟩ := hi.own b _ hbs hblk
  have hH : Sort.Holds (Value.int .i64) w (ρ b).blk ((ρ b).off + 0) zs.toArray := by
    intro j hj
    have hj : j < zs.length := by simpa using hj
    obtain ⟨v, hv, hr⟩ := hi.cell b _ true hbs hblk j (AV.int .i64 zs[j]) (by rw [List.getElem?_append_left (by simpa using hj)]; simp [hj])
    cases hr
    refine ⟨?_, by simp [World.frozen?, o3]⟩
    rw [Nat.add_zero, hv, getElem!_pos _ _ (by simpa using hj)]
    simp
  have hc := Any.slices_Sort_int Ly (ρ b).blk ((ρ b).off + 0) c' zs w hH (hi.bound b hbs) h62
  refine (show Calls P (rn.f 189) #[.slice (some ⟨(ρ b).blk, (ρ b).off + 0, none⟩) zs.length c'] w _ from hc).mono ?_
  rintro e w' ⟨rfl, N, os, rfl⟩
  have d1 : HI w0 ρ H (Sort.ahead w N) := hi.drawn _
  have d2 : Evol ρ H w ρ H (Sort.ahead w N) := Evol.drawn ρ H w _
  obtain ⟨p1, p2⟩ := d1.putInts hbs hblk (ys := sortI zs) sortI_len (sortI zs).length (Nat.le_refl _)
  have e0 : (sortI zs).take (sortI zs).length ++ zs.drop (sortI zs).length = sortI zs := by rw [List.take_length, sortI_len, List.drop_length, List.append_nil]
  rw [e0] at p1 p2
  obtain ⟨g1, g2⟩ := HI.growA os.toList p1
  refine ⟨.tup [], _, ρ, .tuple #[], rfl, .tup [] #[] rfl (fun i x v h => by simp at h), (d2.trans p2).trans g2, g1, rfl, rfl⟩
theorem a_SortNone {P : Program} {rn : Ren} (Ly : Lays.n189 P rn) (hcb : callable P (rn.f 189) = true) {k : Nat} :
    ACall P (rn.f 189) [.sl none 0 0 true k] H (fun r H' => r = .tup [] ∧ H' = H) := by
  refine ⟨hcb, fun w0 ρ w vs hi hvs => ?_⟩
  obtain ⟨v, t, rfl, hv, ht⟩ := hvs.uncons
  have := ht.unnil; subst this
  cases hv
  refine (show Calls P (rn.f 189) #[.slice none 0 0] w _ from Any.slices_Sort_int_none Ly none 0 w).mono ?_
  rintro e w' ⟨rfl, rfl⟩
  exact ⟨.tup [], H, ρ, .tuple #[], rfl, .tup [] #[] rfl (fun i x v h => by simp at h), Evol.refl _ _ _, hi, rfl, rfl⟩
theorem erl_vi (l : List Int) : erl (l.map vi) = l.map (AV.int .i64) := by
  rw [erl_map, List.map_map]
  exact List.map_congr_left fun a _ => by simp [vi, er]
theorem v_Sort {P : Program} {rn : Ren} (Ly : Lays.n189 P rn) (hcb : callable P (rn.f 189) = true) {M : MH} {b n c : Nat} {ex : Bool} {zs : List Int} {rest : List V}
    (hm : M b = .some (zs.map vi ++ rest)) (hn : n = zs.length) (h62 : zs.length < 4611686018427387904) :
    VCall P (rn.f 189) [.sc (.sl (some (b, 0)) n c ex 1)] M (fun r M' => r = .tup [] ∧ M' = M.set b ((sortI zs).map vi ++ rest)) := by
  intro H F hs hok
  have hb := hs.rw hm
  rw [erl_append, erl_vi] at hb
  have e : [V.sc (.sl (some (b, 0)) n c ex 1)].map er = [.sl (some (b, 0)) n c ex 1] := by simp [er]
  rw [e]
  refine (a_Sort Ly hcb hb hn h62).mono ?_
  rintro r H' ⟨rfl, rfl⟩
  have hl : okL F ((sortI zs).map vi ++ rest) := (flatL_vi _).ok.append ((hs.ok hm).sub fun v hv => List.mem_append_right _ hv)
  refine ⟨.tup [], _, F, by simp [er, erl], by simp [okV, okL], Le.refl F, ?_, rfl, rfl⟩
  have := hs.upd hm hl
  rwa [erl_append, erl_vi] at this
theorem g_Sort {P : Program} {rn : Ren} (Ly : Lays.n189 P rn) (hcb : callable P (rn.f 189) = true) {M0 M : MH} {v : V} {zs : List Int} (hg : Gr 1 M0 M v (zs.map vi)) (h62 : zs.length < 4611686018427387904) :
    VCall P (rn.f 189) [v] M (fun r M' => r = .tup [] ∧ Gr 1 M0 M' v ((sortI zs).map vi) ∧ ∀ q, blkV v ≠ some q → M' q = M q) := by
  rcases hg.own with ⟨h1, k, rfl⟩ | ⟨b, n, ex, rfl, h2, h3⟩
  · have hz : zs = [] := by simpa using h1
    subst hz
    intro H F hs hok
    have e : [V.sc (.sl none 0 0 true k)].map er = [.sl none 0 0 true k] := by simp [er]
    rw [e]
    refine (a_SortNone Ly hcb).mono ?_
    rintro r H' ⟨rfl, rfl⟩
    exact ⟨.tup [], M, F, by simp [er, erl], by simp [okV, okL], Le.refl F, hs, rfl, by simpa [sortI] using hg, fun _ _ => rfl⟩
  · refine (v_Sort Ly hcb (rest := []) (by simpa using h2) (by simpa using h3.symm) h62).mono ?_
    rintro r M' ⟨rfl, rfl⟩
    refine ⟨rfl, ?_, fun q hq => set_ne fun e => hq (by subst e; rfl)⟩
    rw [List.append_nil]
    exact hg.set (by simp [sortI_len])
end Go.M2

namespace Go.M2
open Go.Proofs Go.Shelf
variable {H : Heap}
theorem a_Itoa {P : Program} {rn : Ren} (Ly : LaysM.n171 P rn) (hcb : callable P (rn.f 171) = true) (htb : ∀ w0, TabOk w0 → Lib.TabIs P w0 "internal/strconv.uint64pow10" .u64 Lib.pow10Tab)
    {n : Int} (h0 : -9223372036854775808 ≤ n) (h1 : n ≤ 9223372036854775807) :
    ACall P (rn.f 171) [.int .i64 n] H (fun r H' => r = .str ⟨(Lib.itoa n).toArray⟩ ∧ H' = H) := by
  refine ⟨hcb, fun w0 ρ w vs hi hvs => ?_⟩
  obtain ⟨v, t, rfl, hv, ht⟩ := hvs.uncons
  have := ht.unnil; subst this
  cases hv
  refine (show Calls P (rn.f 171) #[.int .i64 n] w _ from Any.strconv_Itoa Ly n h0 h1 w ((Lib.tabBelow_of_tabIs (htb _ hi.tab)) w hi.below)).mono ?_
  rintro e w' ⟨rfl, N, os, rfl⟩
  have d1 : HI w0 ρ H (w.drewN N) := hi.drawn _
  have d2 : Evol ρ H w ρ H (w.drewN N) := Evol.drawn ρ H w _
  obtain ⟨g1, g2⟩ := HI.growA os.toList d1
  exact ⟨.str _, H, ρ, .string _, rfl, .str _, d2.trans g2, g1, rfl, rfl⟩
theorem v_Itoa {P : Program} {rn : Ren} (Ly : LaysM.n171 P rn) (hcb : callable P (rn.f 171) = true) (htb : ∀ w0, TabOk w0 → Lib.TabIs P w0 "internal/strconv.uint64pow10" .u64 Lib.pow10Tab)
    {n : Int} (h0 : -9223372036854775808 ≤ n) (h1 : n ≤ 9223372036854775807) {M : MH} :
    VCall P (rn.f 171) [.sc (.int .i64 n)] M (fun r M' => M = M' ∧ r = .sc (.str ⟨(Lib.itoa n).toArray⟩)) := by
  intro H F hs hok
  have e : [V.sc (.int .i64 n)].map er = [.int .i64 n] := by simp [er]
  rw [e]
  refine (a_Itoa Ly hcb htb h0 h1).mono ?_
  rintro r H' ⟨rfl, rfl⟩
  exact ⟨.sc (.str _), M, F, by simp [er], by simp [okV], Le.refl F, hs, rfl, rfl⟩
end Go.M2

namespace Go.M2
open Go.Proofs Go.Shelf
set_option maxRecDepth 100000
def itoa_ren : Ren := ⟨fun | 129 => 87 | 171 => 63 | 243 => 75 | 246 => 89 | 283 => 96 | 284 => 97 | 285 => 98 | 286 => 99 | 317 => 101 | 318 => 102 | 319 => 103 | 320 => 104 | 337 => 105 | 338 => 106 | n => n, fun | 0 => 0 | 2 => 2 | 3 => 3 | 4 => 4 | 5 => 5 | 9 => 9 | 20 => 20 | 37 => 37 | 46 => 84 | 51 => 97 | 53 => 99 | 171 => 107 | 173 => 109 | 212 => 115 | 213 => 116 | 232 => 117 | 233 => 118 | n => n, fun | 17 => 0 | 18 => 1 | 19 => 2 | n => n⟩
theorem lays171 : LaysM.n171 Tryd.prog itoa_ren where
  mixed := by kernel_rfl
  f129 := Tryd.func87.trans (congrArg some (by kernel_rfl))
  f171 := Tryd.func63.trans (congrArg some (by kernel_rfl))
  f243 := Tryd.func75.trans (congrArg some (by kernel_rfl))
  f246 := Tryd.func89.trans (congrArg some (by kernel_rfl))
  f283 := Tryd.func96.trans (congrArg some (by kernel_rfl))
  f284 := Tryd.func97.trans (congrArg some (by kernel_rfl))
  f285 := Tryd.func98.trans (congrArg some (by kernel_rfl))
  f286 := Tryd.func99.trans (congrArg some (by kernel_rfl))
  f317 := Tryd.func101.trans (congrArg some (by kernel_rfl))
  f318 := Tryd.func102.trans (congrArg some (by kernel_rfl))
  f319 := Tryd.func103.trans (congrArg some (by kernel_rfl))
  f320 := Tryd.func104.trans (congrArg some (by kernel_rfl))
  f337 := Tryd.func105.trans (congrArg some (by kernel_rfl))
  f338 := Tryd.func106.trans (congrArg some (by kernel_rfl))
  t0 := Tryd.underlying0
  a0 := Tryd.isAgg0
  z0 := Tryd.sizeOf0
  v0 := Tryd.zeroValue0
  t2 := Tryd.underlying2
  a2 := Tryd.isAgg2
  z2 := Tryd.sizeOf2
  v2 := Tryd.zeroValue2
  t3 := Tryd.underlying3
  a3 := Tryd.isAgg3
  z3 := Tryd.sizeOf3
  v3 := Tryd.zeroValue3
  t4 := Tryd.underlying4
  a4 := Tryd.isAgg4
  z4 := Tryd.sizeOf4
  v4 := Tryd.zeroValue4
  t5 := Tryd.underlying5
  a5 := Tryd.isAgg5
  z5 := Tryd.sizeOf5
  v5 := Tryd.zeroValue5
  t9 := Tryd.underlying9
  a9 := Tryd.isAgg9
  z9 := Tryd.sizeOf9
  v9 := Tryd.zeroValue9
  t20 := Tryd.underlying20
  a20 := Tryd.isAgg20
  z20 := Tryd.sizeOf20
  v20 := Tryd.zeroValue20
  t37 := Tryd.underlying37
  a37 := Tryd.isAgg37
  z37 := Tryd.sizeOf37
  v37 := Tryd.zeroValue37
  t46 := Tryd.underlying84
  a46 := Tryd.isAgg84
  z46 := Tryd.sizeOf84
  v46 := Tryd.zeroValue84
  t51 := Tryd.underlying97
  a51 := Tryd.isAgg97
  z51 := Tryd.sizeOf97
  v51 := Tryd.zeroValue97
  t53 := Tryd.underlying99
  a53 := Tryd.isAgg99
  z53 := Tryd.sizeOf99
  v53 := Tryd.zeroValue99
  t171 := Tryd.underlying107
  a171 := Tryd.isAgg107
  z171 := Tryd.sizeOf107
  v171 := Tryd.zeroValue107
  t173 := Tryd.underlying109
  a173 := Tryd.isAgg109
  z173 := Tryd.sizeOf109
  v173 := Tryd.zeroValue109
  t212 := Tryd.underlying115
  a212 := Tryd.isAgg115
  z212 := Tryd.sizeOf115
  v212 := Tryd.zeroValue115
  t213 := Tryd.underlying116
  a213 := Tryd.isAgg116
  z213 := Tryd.sizeOf116
  t232 := Tryd.underlying117
  a232 := Tryd.isAgg117
  z232 := Tryd.sizeOf117
  v232 := Tryd.zeroValue117
  t233 := Tryd.underlying118
  a233 := Tryd.isAgg118
  z233 := Tryd.sizeOf118
  v233 := Tryd.zeroValue118
  g17 := by kernel_rfl
  g18 := by kernel_rfl
  g19 := by kernel_rfl
  i0 := by kernel_rfl
  i2 := by kernel_rfl
  i3 := by kernel_rfl
  i4 := by kernel_rfl
  i5 := by kernel_rfl
  i9 := by kernel_rfl
  i20 := by kernel_rfl
  i37 := by kernel_rfl
  i46 := by kernel_rfl
  i51 := by kernel_rfl
  i53 := by kernel_rfl
  i171 := by kernel_rfl
  i173 := by kernel_rfl
  i212 := by kernel_rfl
  i232 := by kernel_rfl
  i233 := by kernel_rfl
  m17 := by kernel_rfl
  m18 := by kernel_rfl
  m19 := by kernel_rfl
theorem t_Itoa {M : MH} {n : Int} (h0 : -9223372036854775808 ≤ n) (h1 : n ≤ 9223372036854775807) :
    VCall Tryd.prog n_strconv_Itoa [.sc (.int .i64 n)] M (fun r M' => M = M' ∧ r = .sc (.str ⟨(Lib.itoa n).toArray⟩)) :=
  v_Itoa lays171 (by kernel_rfl) (fun _ h => h) h0 h1
end Go.M2

namespace Go.M2
def firstAt (R : Nat → Nat → Bool) (i : Nat) : Nat := ((List.range i).find? fun j => R j i).getD i
theorem firstAt_le (R : Nat → Nat → Bool) (i : Nat) : firstAt R i ≤ i := by
  unfold firstAt
  cases h : (List.range i).find? fun j => R j i with
  | none => simp
  | some j => have := List.mem_range.1 (List.mem_of_find?_eq_some h); simp; omega
theorem firstAt_rel {R : Nat → Nat → Bool} {i : Nat} (hr : R i i = true) : R (firstAt R i) i = true := by
  unfold firstAt
  cases h : (List.range i).find? fun j => R j i with
  | none => simpa using hr
  | some j => simpa using List.find?_some h
theorem firstAt_min {R : Nat → Nat → Bool} {i j : Nat} (h : R j i = true) (hj : j ≤ i) : firstAt R i ≤ j := by
  unfold firstAt
  cases h2 : (List.range i).find? fun j => R j i with
  | none =>
    rcases Nat.lt_or_ge j i with h3 | h3
    · have := List.find?_eq_none.1 h2 j (List.mem_range.2 h3)
      exact absurd h this
    · simpa using h3
  | some k =>
    simp only [Option.getD_some]
    rcases Nat.lt_or_ge j k with h3 | h3
    · have := List.find?_range_eq_some.1 h2
      exact absurd h (by simpa using this.2.2 j h3)
    · exact h3
theorem firstAt_congr {R R' : Nat → Nat → Bool} {i : Nat} (h : ∀ j, j ≤ i → R j i = R' j i) : firstAt R i = firstAt R' i := by
  unfold firstAt
  congr 1
  have : ∀ l : List Nat, (∀ j ∈ l, j ≤ i) → l.find? (fun j => R j i) = l.find? fun j => R' j i := by
    intro l
    induction l with
    | nil => intro _; rfl
    | cons a t ih =>
      intro hl
      simp only [List.find?_cons, h a (hl a (by simp))]
      rw [ih fun j hj => hl j (List.mem_cons_of_mem _ hj)]
  exact this _ fun j hj => Nat.le_of_lt (List.mem_range.1 hj)
structure Eqv (R : Nat → Nat → Bool) : Prop where
  refl : ∀ i, R i i = true
  symm : ∀ i j, R i j = true → R j i = true
  trans : ∀ i j k, R i j = true → R j k = true → R i k = true
theorem firstAt_eq {R : Nat → Nat → Bool} (h : Eqv R) {i j : Nat} : firstAt R i = firstAt R j ↔ R i j = true := by
  constructor
  · intro e
    have h1 := firstAt_rel (h.refl i)
    have h2 := firstAt_rel (h.refl j)
    rw [e] at h1
    exact h.trans _ _ _ (h.symm _ _ h1) h2
  · intro hij
    have key : ∀ i j, R i j = true → firstAt R i ≤ firstAt R j := fun i j hij => by
      have h1 := firstAt_rel (h.refl j)
      have h2 := h.trans _ _ _ h1 (h.symm _ _ hij)
      rcases Nat.lt_or_ge i (firstAt R j) with h3 | h3
      · exact Nat.le_trans (firstAt_le R i) (by omega)
      · exact firstAt_min h2 h3
    exact Nat.le_antisymm (key i j hij) (key j i (h.symm _ _ hij))
theorem firstAt_idem {R : Nat → Nat → Bool} (h : Eqv R) (i : Nat) : firstAt R (firstAt R i) = firstAt R i :=
  (firstAt_eq h).2 (firstAt_rel (h.refl i))
structure Gr2 where
  letters : List (List Int)
  first : Int
  next : List (List Int)
def toS (p : List Int) (row : List Int) : List Int := row.map fun x => ix p x
def sameSet (a b : List Int) : Bool := (a.all fun x => b.contains x) && (b.all fun x => a.contains x)
theorem sameSet_iff {a b : List Int} : sameSet a b = true ↔ ∀ x, x ∈ a ↔ x ∈ b := by
  simp only [sameSet, Bool.and_eq_true, List.all_eq_true, List.contains_iff_mem]
  exact ⟨fun ⟨h1, h2⟩ x => ⟨h1 x, h2 x⟩, fun h => ⟨fun x hx => (h x).1 hx, fun x hx => (h x).2 hx⟩⟩
def keyR (g : Gr2) (p : List Int) (i j : Nat) : Bool := decide (g.letters.getD i [] = g.letters.getD j []) && decide (p.getD i 0 = p.getD j 0) && sameSet (toS p (g.next.getD i [])) (toS p (g.next.getD j []))
def rowR (g : Gr2) (p : List Int) (i j : Nat) : Bool := decide (p.getD i 0 = p.getD j 0) && sameSet (toS p (g.next.getD i [])) (toS p (g.next.getD j []))
def letR (g : Gr2) (i j : Nat) : Bool := decide (g.letters.getD i [] = g.letters.getD j [])
theorem letR_eqv (g : Gr2) : Eqv (letR g) := ⟨fun i => by simp [letR], fun i j h => by simp only [letR, decide_eq_true_eq] at h ⊢; exact h.symm, fun i j k h h' => by simp only [letR, decide_eq_true_eq] at h h' ⊢; exact h.trans h'⟩
theorem rowR_eqv (g : Gr2) (p : List Int) : Eqv (rowR g p) where
  refl i := by simp [rowR, sameSet_iff]
  symm i j h := by
    simp only [rowR, Bool.and_eq_true, decide_eq_true_eq, sameSet_iff] at h ⊢
    exact ⟨h.1.symm, fun x => (h.2 x).symm⟩
  trans i j k h h' := by
    simp only [rowR, Bool.and_eq_true, decide_eq_true_eq, sameSet_iff] at h h' ⊢
    exact ⟨h.1.trans h'.1, fun x => (h.2 x).trans (h'.2 x)⟩
theorem keyR_eqv (g : Gr2) (p : List Int) : Eqv (keyR g p) where
  refl i := by simp [keyR, sameSet_iff]
  symm i j h := by
    simp only [keyR, Bool.and_eq_true, decide_eq_true_eq, sameSet_iff] at h ⊢
    exact ⟨⟨h.1.1.symm, h.1.2.symm⟩, fun x => (h.2 x).symm⟩
  trans i j k h h' := by
    simp only [keyR, Bool.and_eq_true, decide_eq_true_eq, sameSet_iff] at h h' ⊢
    exact ⟨⟨h.1.1.trans h'.1.1, h.1.2.trans h'.1.2⟩, fun x => (h.2 x).trans (h'.2 x)⟩
def rndF (g : Gr2) (p : List Int) : List Int := (List.range g.letters.length).map fun i => (firstAt (keyR g p) i : Int)
def rndG (g : Gr2) (p : List Int) : List Int := (List.range g.letters.length).map fun i => (firstAt (rowR g p) i : Int)
def cls0 (g : Gr2) : List Int := (List.range g.letters.length).map fun i => (firstAt (letR g) i : Int)
theorem getD_range {n i : Nat} {f : Nat → Int} (h : i < n) : ((List.range n).map f).getD i 0 = f i := by simp [List.getD, h]
inductive Stab (F : List Int → List Int) : List Int → List Int → Prop
  | stop {p : List Int} : F p = p → Stab F p p
  | go {p r : List Int} : F p ≠ p → Stab F (F p) r → Stab F p r
theorem Stab.det {F : List Int → List Int} {p r r' : List Int} (h : Stab F p r) (h' : Stab F p r') : r = r' := by
  induction h with
  | stop h => cases h' with
    | stop _ => rfl
    | go h2 _ => exact absurd h h2
  | go h _ ih => cases h' with
    | stop h2 => exact absurd h2 h
    | go _ h2 => exact ih h2
theorem Stab.fix {F : List Int → List Int} {p r : List Int} (h : Stab F p r) : F r = r := by
  induction h with
  | stop h => exact h
  | go _ _ ih => exact ih
structure Cls (g : Gr2) (p : List Int) : Prop where
  len : p.length = g.letters.length
  at_ : ∀ i, i < p.length → 0 ≤ p.getD i 0 ∧ p.getD i 0 ≤ i ∧ p.getD (p.getD i 0).toNat 0 = p.getD i 0
theorem cls_of {g : Gr2} {R : Nat → Nat → Bool} (h : Eqv R) : Cls g ((List.range g.letters.length).map fun i => (firstAt R i : Int)) := by
  refine ⟨by simp, fun i hi => ?_⟩
  have hi : i < g.letters.length := by simpa using hi
  have h1 := firstAt_le R i
  rw [getD_range hi]
  refine ⟨by omega, by omega, ?_⟩
  rw [show ((firstAt R i : Int)).toNat = firstAt R i by omega, getD_range (by omega), firstAt_idem h]
theorem rndF_cls (g : Gr2) (p : List Int) : Cls g (rndF g p) := cls_of (keyR_eqv g p)
theorem zero_cls {g : Gr2} : Cls g (List.replicate g.letters.length 0) := by
  refine ⟨by simp, fun i hi => ?_⟩
  have e : ∀ i, (List.replicate g.letters.length (0 : Int)).getD i 0 = 0 := fun i => by
    simp only [List.getD]
    rw [List.getElem?_replicate]
    split <;> rfl
  rw [e]; exact ⟨by omega, by omega, e _⟩
def reps (p : List Int) : Nat := ((List.range p.length).filter fun i => decide (p.getD i 0 = i)).length
theorem reps_le (p : List Int) : reps p ≤ p.length := by
  have := List.length_filter_le (fun i => decide (p.getD i 0 = i)) (List.range p.length)
  simpa [reps] using this
theorem filter_lt {α : Type} {P Q : α → Bool} {l : List α} (h : ∀ x ∈ l, P x = true → Q x = true) {y : α} (hy : y ∈ l) (h1 : P y = false) (h2 : Q y = true) : (l.filter P).length < (l.filter Q).length := by
  induction l with
  | nil => simp at hy
  | cons a t ih =>
    have ht : ∀ x ∈ t, P x = true → Q x = true := fun x hx => h x (List.mem_cons_of_mem _ hx)
    have hle : ∀ {l : List α}, (∀ x ∈ l, P x = true → Q x = true) → (l.filter P).length ≤ (l.filter Q).length := by
      intro l
      induction l with
      | nil => intro _; simp
      | cons b s ihs =>
        intro hh
        have h3 := ihs fun x hx => hh x (List.mem_cons_of_mem _ hx)
        have h4 := hh b (by simp)
        simp only [List.filter_cons]
        by_cases hb : P b = true
        · rw [if_pos hb, if_pos (h4 hb)]; simp; exact h3
        · rw [if_neg hb]
          split
          · simp; omega
          · exact h3
    simp only [List.filter_cons]
    rcases List.mem_cons.1 hy with rfl | hy
    · rw [h1, h2]
      have := hle ht
      simp; omega
    · have h3 := ih ht hy
      have h4 := h a (by simp)
      by_cases hb : P a = true
      · rw [if_pos hb, if_pos (h4 hb)]; simp; exact h3
      · rw [if_neg hb]
        split
        · simp; omega
        · exact h3
theorem reps_lt {g : Gr2} {p : List Int} (hp : Cls g p) (hne : rndF g p ≠ p) : reps p < reps (rndF g p) := by
  have hq := rndF_cls g p
  have hn := hp.len
  have hlen : (rndF g p).length = p.length := by rw [hq.len, hn]
  have at_ : ∀ i, i < g.letters.length → (rndF g p).getD i 0 = (firstAt (keyR g p) i : Int) := fun i hi => getD_range hi
  have ref : ∀ i, i < g.letters.length → p.getD (firstAt (keyR g p) i) 0 = p.getD i 0 := fun i hi => by
    have := firstAt_rel ((keyR_eqv g p).refl i)
    simp only [keyR, Bool.and_eq_true, decide_eq_true_eq] at this
    exact this.1.2
  obtain ⟨i, hi, hd⟩ : ∃ i, i < g.letters.length ∧ (rndF g p).getD i 0 ≠ p.getD i 0 := by
    apply Classical.byContradiction
    intro hno
    apply hne
    apply List.ext_getElem (by omega)
    intro i h1 h2
    have : (rndF g p).getD i 0 = p.getD i 0 := Classical.byContradiction fun h => hno ⟨i, by omega, h⟩
    simpa [List.getD, h1, h2] using this
  unfold reps
  rw [hlen]
  rw [at_ i hi] at hd
  have hle := firstAt_le (keyR g p) i
  have hj := ref i hi
  refine filter_lt (y := firstAt (keyR g p) i) (fun x hx hxp => ?_) (List.mem_range.2 (by omega)) ?_ ?_
  · have hx : x < g.letters.length := by have := List.mem_range.1 hx; omega
    simp only [decide_eq_true_eq] at hxp ⊢
    rw [at_ x hx]
    have h1 := ref x hx
    have h2 := firstAt_le (keyR g p) x
    have h3 := (hp.at_ (firstAt (keyR g p) x) (by omega)).2.1
    rw [h1, hxp] at h3
    omega
  · have h3 := hp.at_ (firstAt (keyR g p) i) (by omega)
    rw [decide_eq_false_iff_not]
    intro e
    rw [hj] at e
    exact hd e.symm
  · rw [decide_eq_true_eq, at_ _ (by omega), firstAt_idem (keyR_eqv g p)]
def Lett (g : Gr2) (p : List Int) : Prop := ∀ i j, i < g.letters.length → j < g.letters.length → p.getD i 0 = p.getD j 0 → letR g i j = true
theorem rnd_eq {g : Gr2} {p : List Int} (h : Lett g p) : rndF g p = rndG g p := by
  unfold rndF rndG
  apply List.map_congr_left
  intro i hi
  have hi := List.mem_range.1 hi
  congr 1
  refine firstAt_congr fun j hj => ?_
  simp only [keyR, rowR]
  by_cases hp : p.getD j 0 = p.getD i 0
  · have := h j i (by omega) hi hp
    simp only [letR] at this
    rw [this, Bool.true_and]
  · rw [decide_eq_false hp, Bool.and_false, Bool.false_and]
theorem cls0_lett (g : Gr2) : Lett g (cls0 g) := fun i j hi hj e => by
  unfold cls0 at e
  rw [getD_range hi, getD_range hj] at e
  exact (firstAt_eq (letR_eqv g)).1 (by omega)
theorem rndF_lett (g : Gr2) (p : List Int) : Lett g (rndF g p) := fun i j hi hj e => by
  unfold rndF at e
  rw [getD_range hi, getD_range hj] at e
  have := (firstAt_eq (keyR_eqv g p)).1 (show firstAt (keyR g p) i = firstAt (keyR g p) j by omega)
  simp only [keyR, Bool.and_eq_true] at this
  exact this.1.1
structure NextOk (g : Gr2) : Prop where
  len : g.next.length = g.letters.length
  some_ : ∀ row ∈ g.next, row ≠ []
  in_ : ∀ row ∈ g.next, ∀ x ∈ row, 0 ≤ x ∧ x < (g.letters.length : Int)
theorem ix_zero {n : Nat} {x : Int} : ix (List.replicate n 0) x = 0 := by
  unfold ix
  simp only [List.getD]
  rw [List.getElem?_replicate]
  split <;> rfl
theorem rnd_zero {g : Gr2} (hg : NextOk g) : rndF g (List.replicate g.letters.length 0) = cls0 g := by
  unfold rndF cls0
  apply List.map_congr_left
  intro i hi
  have hi := List.mem_range.1 hi
  congr 1
  refine firstAt_congr fun j hj => ?_
  have hz : ∀ i, (List.replicate g.letters.length (0 : Int)).getD i 0 = 0 := fun i => by
    simp only [List.getD]
    rw [List.getElem?_replicate]
    split <;> rfl
  have hs : ∀ i, i < g.letters.length → ∀ x, x ∈ toS (List.replicate g.letters.length 0) (g.next.getD i []) ↔ x = 0 := fun i hi x => by
    simp only [toS, List.mem_map, ix_zero]
    constructor
    · rintro ⟨_, _, rfl⟩; rfl
    · rintro rfl
      have hl : i < g.next.length := by rw [hg.len]; exact hi
      have hne := hg.some_ _ (List.getElem_mem hl)
      obtain ⟨y, hy⟩ := List.exists_mem_of_ne_nil _ hne
      exact ⟨y, by simpa [List.getD, hl] using hy, rfl⟩
  have h1 : sameSet (toS (List.replicate g.letters.length 0) (g.next.getD j [])) (toS (List.replicate g.letters.length 0) (g.next.getD i [])) = true :=
    sameSet_iff.2 fun x => by rw [hs j (by omega), hs i hi]
  simp only [keyR, letR, hz, h1, decide_true, Bool.and_true]
theorem stab_FG {g : Gr2} {p r : List Int} (h : Stab (rndF g) p r) : Lett g p → Stab (rndG g) p r := by
  induction h with
  | @stop p h => intro hl; exact .stop (by rw [← rnd_eq hl]; exact h)
  | @go p r h _ ih =>
    intro hl
    have e := rnd_eq hl
    refine .go (by rw [← e]; exact h) ?_
    rw [← e]
    exact ih (rndF_lett g p)
theorem stab_both {g : Gr2} (hg : NextOk g) {r : List Int} (h : Stab (rndF g) (List.replicate g.letters.length 0) r) : Stab (rndG g) (cls0 g) r := by
  have h0 := rnd_zero hg
  cases h with
  | stop h =>
    have e : cls0 g = List.replicate g.letters.length 0 := by rw [← h0]; exact h
    rw [← e] at h ⊢
    exact .stop (by rw [← rnd_eq (cls0_lett g)]; exact h)
  | go _ h =>
    rw [h0] at h
    exact stab_FG h (cls0_lett g)
theorem Stab.cls {g : Gr2} {p r : List Int} (h : Stab (rndF g) p r) : Cls g p → Cls g r := by
  induction h with
  | stop _ => exact id
  | go _ _ ih => intro _; exact ih (rndF_cls g _)
theorem stab_ex {g : Gr2} : ∀ (k : Nat) (p : List Int), Cls g p → g.letters.length - reps p ≤ k → ∃ r, Stab (rndF g) p r
  | 0, p, hp, hk => by
    by_cases h : rndF g p = p
    · exact ⟨p, .stop h⟩
    · have h1 := reps_lt hp h
      have h2 := reps_le (rndF g p)
      rw [(rndF_cls g p).len] at h2
      omega
  | k + 1, p, hp, hk => by
    by_cases h : rndF g p = p
    · exact ⟨p, .stop h⟩
    · have h1 := reps_lt hp h
      obtain ⟨r, hr⟩ := stab_ex k (rndF g p) (rndF_cls g p) (by omega)
      exact ⟨r, .go h hr⟩
end Go.M2

namespace Go.M2
open Go.Proofs
def dvL (l : List UInt8) : Nat := l.foldl (fun a c => a * 10 + (c.toNat - 48)) 0
theorem dvL_snoc (l : List UInt8) (c : UInt8) : dvL (l ++ [c]) = dvL l * 10 + (c.toNat - 48) := by simp [dvL]
theorem dec_all (u : Nat) : dvL (Lib.decDigits u) = u ∧ ∀ c ∈ Lib.decDigits u, 48 ≤ c.toNat ∧ c.toNat ≤ 57 := by
  induction u using Nat.strongRecOn with
  | _ u ih =>
    rw [Lib.decDigits]
    split
    · rename_i h
      have e : (UInt8.ofNat (48 + u)).toNat = 48 + u := by simp [UInt8.toNat_ofNat']; omega
      have e2 : dvL [UInt8.ofNat (48 + u)] = 0 * 10 + ((UInt8.ofNat (48 + u)).toNat - 48) := rfl
      refine ⟨by omega, fun c hc => ?_⟩
      rw [List.mem_singleton] at hc; subst hc; omega
    · rename_i h
      have e : (UInt8.ofNat (48 + u % 10)).toNat = 48 + u % 10 := by simp [UInt8.toNat_ofNat']; omega
      obtain ⟨i1, i2⟩ := ih (u / 10) (by omega)
      refine ⟨by rw [dvL_snoc, i1, e]; omega, fun c hc => ?_⟩
      rcases List.mem_append.1 hc with h1 | h1
      · exact i2 c h1
      · rw [List.mem_singleton] at h1; subst h1; omega
theorem dec_inj {a b : Nat} (h : Lib.decDigits a = Lib.decDigits b) : a = b := by rw [← (dec_all a).1, h, (dec_all b).1]
theorem itoa_by (n : Int) : ∀ c ∈ Lib.itoa n, c ≠ 44 ∧ c ≠ 59 := by
  have dig : ∀ (u : Nat), ∀ c ∈ Lib.decDigits u, c ≠ 44 ∧ c ≠ 59 := fun u c hc => by
    have := (dec_all u).2 c hc
    exact ⟨fun e => by subst e; revert this; decide, fun e => by subst e; revert this; decide⟩
  intro c hc
  unfold Lib.itoa at hc
  split at hc
  · rcases List.mem_cons.1 hc with rfl | h
    · decide
    · exact dig _ c h
  · exact dig _ c hc
theorem itoa_inj {a b : Int} (h : Lib.itoa a = Lib.itoa b) : a = b := by
  have no : ∀ (u : Nat) (l : List UInt8), Lib.decDigits u ≠ 45 :: l := fun u l e => by
    have := (dec_all u).2 45 (by rw [e]; exact List.mem_cons_self)
    revert this; decide
  unfold Lib.itoa at h
  split at h <;> split at h
  · have := dec_inj (List.cons.inj h).2; omega
  · exact absurd h.symm (no _ _)
  · exact absurd h (no _ _)
  · have := dec_inj h; omega
theorem cut_inj {s : UInt8} : ∀ {a b x y : List UInt8}, s ∉ a → s ∉ b → a ++ s :: x = b ++ s :: y → a = b ∧ x = y
  | [], [], x, y, _, _, h => ⟨rfl, (List.cons.inj h).2⟩
  | [], c :: b, x, y, _, hb, h => absurd (List.mem_cons_self) (by rw [(List.cons.inj h).1] at hb; exact hb)
  | c :: a, [], x, y, ha, _, h => absurd (List.mem_cons_self) (by rw [← (List.cons.inj h).1] at ha; exact ha)
  | c :: a, d :: b, x, y, ha, hb, h => by
    obtain ⟨e1, e2⟩ := List.cons.inj h
    obtain ⟨i1, i2⟩ := cut_inj (fun k => ha (List.mem_cons_of_mem _ k)) (fun k => hb (List.mem_cons_of_mem _ k)) e2
    exact ⟨by rw [e1, i1], i2⟩
def ntL (xs : List Int) : List UInt8 := xs.flatMap fun x => Lib.itoa x ++ [44]
theorem ntL_snoc (xs : List Int) (x : Int) : ntL (xs ++ [x]) = ntL xs ++ (Lib.itoa x ++ [44]) := by simp [ntL]
theorem ntL_cons (xs : List Int) (x : Int) : ntL (x :: xs) = Lib.itoa x ++ 44 :: ntL xs := by simp [ntL]
theorem ntL_inj : ∀ {xs ys : List Int}, ntL xs = ntL ys → xs = ys
  | [], [], _ => rfl
  | [], y :: ys, h => by rw [ntL_cons] at h; simp [ntL] at h
  | x :: xs, [], h => by rw [ntL_cons] at h; simp [ntL] at h
  | x :: xs, y :: ys, h => by
    rw [ntL_cons, ntL_cons] at h
    obtain ⟨h1, h2⟩ := cut_inj (fun k => (itoa_by x 44 k).1 rfl) (fun k => (itoa_by y 44 k).1 rfl) h
    rw [itoa_inj h1, ntL_inj h2]
theorem ntL_no (xs : List Int) : (59 : UInt8) ∉ ntL xs := fun h => by
  obtain ⟨x, _, hx⟩ := List.mem_flatMap.1 h
  rcases List.mem_append.1 hx with h1 | h1
  · exact (itoa_by x 59 h1).2 rfl
  · simp at h1
def keyL (l : List Int) (p : Int) (to : List Int) : List UInt8 := ntL l ++ 59 :: (Lib.itoa p ++ 59 :: ntL to)
theorem keyL_inj {l l' to to' : List Int} {p p' : Int} (h : keyL l p to = keyL l' p' to') : l = l' ∧ p = p' ∧ to = to' := by
  obtain ⟨h1, h2⟩ := cut_inj (ntL_no l) (ntL_no l') h
  obtain ⟨h3, h4⟩ := cut_inj (fun k => (itoa_by p 59 k).2 rfl) (fun k => (itoa_by p' 59 k).2 rfl) h2
  exact ⟨ntL_inj h1, itoa_inj h3, ntL_inj h4⟩
def bA (l : List UInt8) : ByteArray := ⟨l.toArray⟩
theorem bA_inj {a b : List UInt8} (h : bA a = bA b) : a = b := by
  have := congrArg (fun x : ByteArray => x.data.toList) h
  simpa [bA] using this
theorem bA_app (a b : List UInt8) : bA a ++ bA b = bA (a ++ b) := by
  apply ByteArray.ext; simp [bA]
end Go.M2

namespace Go.M2
open Go.Proofs
variable {M : MH}
theorem eqB {a b : Bool} (h : a = true ↔ b = true) : V.sc (.bool a) = V.sc (.bool b) := by
  have : a = b := by cases a <;> cases b <;> simp_all
  rw [this]
theorem t_l1In {n lo hi : Int} : VCall Tryd.prog n_spec_l1In [.sc (.int .i64 n), .sc (.int .i64 lo), .sc (.int .i64 hi)] M (fun r M' => M = M' ∧ r = .sc (.bool (decide (lo ≤ n ∧ n ≤ hi)))) := by
  refine VCall.pure fun R hR => v_spec_l1In rfl ?_
  (repeat' (first | ((with_reducible first | refine cond_dec (fun h => ?_) (fun h => ?_) | refine guardK_dec (fun h => ?_) (fun h => ?_) | refine guardD3_dec (fun h => ?_) (fun h => ?_)) <;> first | (exfalso; omega) | (simp (maxSteps := 2000000) (disch := first | omega | assumption | exact idP rfl | exact idP (bL rfl)) only [go_sem, reduceIte, Nat.reduceEqDiff, wpV_kd, wpV_tH, h]) | skip) | ((with_reducible first | refine cond_split (fun h => ?_) (fun h => ?_) | refine guardK_split (fun h => ?_) (fun h => ?_) | refine guardD3_split (fun h => ?_) (fun h => ?_)) <;> ((try simp only [Bool.not_eq_true', Bool.not_eq_false'] at h); first | (simp (maxSteps := 2000000) (disch := first | omega | assumption | exact idP rfl | exact idP (bL rfl)) only [go_sem, reduceIte, Nat.reduceEqDiff, wpV_kd, wpV_tH, h]) | skip)) | (with_reducible intro bk hbk; try have hnk := (fresh_set hbk).1) | (simp (maxSteps := 2000000) (disch := first | omega | assumption | exact idP rfl | exact idP (bL rfl)) only [go_sem, reduceIte, Nat.reduceEqDiff, wpV_kd, wpV_tH])))
  all_goals exact hR _ _ (Sub.refl _) (by (refine eqB ?_; (try simp only [decide_eq_true_eq, Bool.false_eq_true, Bool.and_eq_true, Bool.or_eq_true, Bool.not_eq_true', decide_eq_false_iff_not, eq_self_iff_true, true_iff, false_iff, iff_true, iff_false, ne_eq]); (try omega)))
theorem t_in {n lo hi : Int} : VCall Tryd.prog n_impl_in [.sc (.int .i64 n), .sc (.int .i64 lo), .sc (.int .i64 hi)] M (fun r M' => M = M' ∧ r = .sc (.bool (decide (lo ≤ n ∧ n ≤ hi)))) := by
  refine VCall.pure fun R hR => v_impl_in rfl ?_
  (repeat' (first | ((with_reducible first | refine cond_dec (fun h => ?_) (fun h => ?_) | refine guardK_dec (fun h => ?_) (fun h => ?_) | refine guardD3_dec (fun h => ?_) (fun h => ?_)) <;> first | (exfalso; omega) | (simp (maxSteps := 2000000) (disch := first | omega | assumption | exact idP rfl | exact idP (bL rfl)) only [go_sem, reduceIte, Nat.reduceEqDiff, wpV_kd, wpV_tH, h]) | skip) | ((with_reducible first | refine cond_split (fun h => ?_) (fun h => ?_) | refine guardK_split (fun h => ?_) (fun h => ?_) | refine guardD3_split (fun h => ?_) (fun h => ?_)) <;> ((try simp only [Bool.not_eq_true', Bool.not_eq_false'] at h); first | (simp (maxSteps := 2000000) (disch := first | omega | assumption | exact idP rfl | exact idP (bL rfl)) only [go_sem, reduceIte, Nat.reduceEqDiff, wpV_kd, wpV_tH, h]) | skip)) | (with_reducible intro bk hbk; try have hnk := (fresh_set hbk).1) | (simp (maxSteps := 2000000) (disch := first | omega | assumption | exact idP rfl | exact idP (bL rfl)) only [go_sem, reduceIte, Nat.reduceEqDiff, wpV_kd, wpV_tH])))
  all_goals exact hR _ _ (Sub.refl _) (by (refine eqB ?_; (try simp only [decide_eq_true_eq, Bool.false_eq_true, Bool.and_eq_true, Bool.or_eq_true, Bool.not_eq_true', decide_eq_false_iff_not, eq_self_iff_true, true_iff, false_iff, iff_true, iff_false, ne_eq]); (try omega)))
def encT (t : TermS) : List V := [.sc (.int .i64 t.op), .sc (.int .i64 t.n), .sc (.int .i64 t.a), .sc (.int .i64 t.b)]
def isT (t : TermS) (cs : List V) : Prop := cs = encT t
abbrev LT : V → List TermS → Prop := Lc 4 isT
theorem LI.ix {v : V} {ys : List Int} (h : LI v ys) {i : Int} (h0 : 0 ≤ i) (h1 : i < (ys.length : Int)) : at1 v i.toNat = .sc (.int .i64 (ix ys i)) := by
  obtain ⟨h2, e⟩ := ix_eq h0 h1
  rw [LI.at h h2, e]
end Go.M2

namespace Go.M2
open Go.Proofs
variable {M : MH}
theorem LT.at {v : V} {ts : List TermS} (h : LT v ts) {i : Nat} (hi : i < ts.length) : atN 4 v i = encT ts[i] := h.elt hi
end Go.M2

namespace Go.M2
open Go.Proofs
variable {M : MH}
def encVar (v : VarS) : List V := [.sc (.int .i64 v.low), .sc (.int .i64 v.high), .sc (.int .i64 v.first)]
def isVar (v : VarS) (cs : List V) : Prop := cs = encVar v
abbrev LVar : V → List VarS → Prop := Lc 3 isVar
abbrev LTT : V → List (List TermS) → Prop := Ls (fun ts u => LT u ts)
def isRule (r : RuleS) (cs : List V) : Prop := ∃ a b c, cs = [a, b, c] ∧ LT a r.when_ ∧ LI b r.sets ∧ LTT c r.terms
abbrev LR : V → List RuleS → Prop := Lc 3 isRule
theorem LVar.at {v : V} {vs : List VarS} (h : LVar v vs) {i : Nat} (hi : i < vs.length) : atN 3 v i = [.sc (.int .i64 vs[i].low), .sc (.int .i64 vs[i].high), .sc (.int .i64 vs[i].first)] := h.elt hi
def isSys (s : SysS) (v : V) : Prop := ∃ a b, v = .agg [a, b] ∧ LVar a s.vars ∧ LR b s.rules
end Go.M2

namespace Go.M2
open Go.Proofs
variable {M : MH}
end Go.M2

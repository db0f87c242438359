/- The law AllocTells of the given program, for every input. (part 5 of 10) -/
import Derived.Test.YtfdaioinghfjpaaATl4
import Derived.Test.YtfdaioinghfjpaaRows
import Derived.KernelRfl
import Derived.Deep.Slices
import Derived.WalkKit
import Derived.ProofKit
import Derived.OpenShut
import Derived.ShutString
import Derived.ChangeOld
import Derived.SizedLaws
namespace Go.Proofs.Ytfdaioinghfjpaa
open Go.Rd
namespace RdT
def i1 : TI := ⟨.other, false, 1, 8, [.nilFunc]⟩
def i2 : TI := ⟨.int .i64, false, 1, 8, [.int .i64 0]⟩
def i3 : TI := ⟨.int .i64, false, 1, 8, [.int .i64 0]⟩
def i4 : TI := ⟨.bool, false, 1, 1, [.bool false]⟩
def i5 : TI := ⟨.int .u8, false, 1, 1, [.int .u8 0]⟩
def i9 : TI := ⟨.str, false, 1, 16, [.string .empty]⟩
def i12 : TI := ⟨.int .u64, false, 1, 8, [.int .u64 0]⟩
def i17 : TI := ⟨.other, false, 1, 8, [.pointer none]⟩
def i20 : TI := ⟨.other, false, 1, 16, [.nilIface]⟩
def i21 : TI := ⟨.int .i32, false, 1, 4, [.int .i32 0]⟩
def i22 : TI := ⟨.slice 41, false, 1, 24, [.slice none 0 0]⟩
def i23 : TI := ⟨.other, false, 1, 8, [.nilFunc]⟩
def i25 : TI := ⟨.other, false, 1, 8, [.nilFunc]⟩
def i27 : TI := ⟨.other, false, 1, 8, [.nilFunc]⟩
def i28 : TI := ⟨.other, false, 1, 8, [.nilFunc]⟩
def i29 : TI := ⟨.other, false, 1, 8, [.nilFunc]⟩
def i30 : TI := ⟨.slice 4, false, 1, 24, [.slice none 0 0]⟩
def i31 : TI := ⟨.other, false, 1, 8, [.nilFunc]⟩
def i32 : TI := ⟨.other, false, 1, 8, [.nilFunc]⟩
def i33 : TI := ⟨.other, false, 1, 8, [.nilFunc]⟩
def i34 : TI := ⟨.other, false, 1, 8, [.nilFunc]⟩
def i35 : TI := ⟨.other, false, 1, 8, [.nilFunc]⟩
def i36 : TI := ⟨.slice 38, false, 1, 24, [.slice none 0 0]⟩
def i37 : TI := ⟨.struct [(0, 3), (1, 3)], true, 2, 16, [.int .i64 0, .int .i64 0]⟩
def i38 : TI := ⟨.struct [(0, 3), (1, 3)], true, 2, 16, [.int .i64 0, .int .i64 0]⟩
def i39 : TI := ⟨.other, false, 1, 8, [.nilFunc]⟩
def i40 : TI := ⟨.struct [(0, 3), (1, 3), (2, 3), (3, 4)], true, 4, 32, [.int .i64 0, .int .i64 0, .int .i64 0, .bool false]⟩
def i41 : TI := ⟨.struct [(0, 3), (1, 3), (2, 3), (3, 4)], true, 4, 32, [.int .i64 0, .int .i64 0, .int .i64 0, .bool false]⟩
def i42 : TI := ⟨.other, false, 1, 8, [.nilFunc]⟩
def i43 : TI := ⟨.other, false, 1, 8, [.nilFunc]⟩
def i44 : TI := ⟨.other, false, 1, 8, [.nilFunc]⟩
def i45 : TI := ⟨.other, false, 1, 8, [.nilFunc]⟩
def i46 : TI := ⟨.slice 22, false, 1, 24, [.slice none 0 0]⟩
def i47 : TI := ⟨.struct [(0, 3), (1, 3)], true, 2, 16, [.int .i64 0, .int .i64 0]⟩
def i48 : TI := ⟨.struct [(0, 3), (1, 3)], true, 2, 16, [.int .i64 0, .int .i64 0]⟩
def i49 : TI := ⟨.other, false, 1, 8, [.nilFunc]⟩
def i51 : TI := ⟨.other, false, 1, 8, [.nilFunc]⟩
def i52 : TI := ⟨.struct [(0, 3), (1, 3), (2, 3), (3, 4)], true, 4, 32, [.int .i64 0, .int .i64 0, .int .i64 0, .bool false]⟩
def i53 : TI := ⟨.struct [(0, 3), (1, 3), (2, 3), (3, 4)], true, 4, 32, [.int .i64 0, .int .i64 0, .int .i64 0, .bool false]⟩
def i55 : TI := ⟨.other, false, 1, 8, [.nilFunc]⟩
def i57 : TI := ⟨.other, false, 1, 8, [.nilFunc]⟩
def i58 : TI := ⟨.other, false, 1, 8, [.nilFunc]⟩
def i59 : TI := ⟨.other, false, 1, 8, [.nilFunc]⟩
def i60 : TI := ⟨.other, false, 1, 8, [.nilFunc]⟩
def i62 : TI := ⟨.other, false, 1, 8, [.nilFunc]⟩
def i63 : TI := ⟨.other, false, 1, 8, [.nilFunc]⟩
def i64 : TI := ⟨.other, false, 1, 8, [.nilFunc]⟩
def i65 : TI := ⟨.other, false, 1, 8, [.nilFunc]⟩
def i66 : TI := ⟨.slice 3, false, 1, 24, [.slice none 0 0]⟩
def i67 : TI := ⟨.slice 69, false, 1, 24, [.slice none 0 0]⟩
def i68 : TI := ⟨.struct [(0, 66), (1, 66), (2, 67)], true, 3, 72, [.slice none 0 0, .slice none 0 0, .slice none 0 0]⟩
def i69 : TI := ⟨.struct [(0, 66), (1, 66), (2, 67)], true, 3, 72, [.slice none 0 0, .slice none 0 0, .slice none 0 0]⟩
def i70 : TI := ⟨.struct [(0, 3), (1, 3), (2, 3)], true, 3, 24, [.int .i64 0, .int .i64 0, .int .i64 0]⟩
def i71 : TI := ⟨.struct [(0, 3), (1, 3), (2, 3)], true, 3, 24, [.int .i64 0, .int .i64 0, .int .i64 0]⟩
def i72 : TI := ⟨.other, false, 1, 8, [.nilFunc]⟩
def i74 : TI := ⟨.other, false, 1, 8, [.nilFunc]⟩
def i75 : TI := ⟨.slice 94, false, 1, 24, [.slice none 0 0]⟩
def i76 : TI := ⟨.other, false, 1, 8, [.nilFunc]⟩
def i77 : TI := ⟨.other, false, 1, 8, [.nilFunc]⟩
def i78 : TI := ⟨.other, false, 1, 8, [.nilFunc]⟩
def i79 : TI := ⟨.other, false, 1, 8, [.nilFunc]⟩
def i80 : TI := ⟨.other, false, 1, 8, [.nilFunc]⟩
def i81 : TI := ⟨.other, false, 1, 8, [.nilFunc]⟩
def i82 : TI := ⟨.other, false, 1, 8, [.nilFunc]⟩
def i83 : TI := ⟨.other, false, 1, 8, [.nilFunc]⟩
def i84 : TI := ⟨.slice 86, false, 1, 24, [.slice none 0 0]⟩
def i85 : TI := ⟨.struct [(0, 3), (1, 3), (2, 4)], true, 3, 24, [.int .i64 0, .int .i64 0, .bool false]⟩
def i86 : TI := ⟨.struct [(0, 3), (1, 3), (2, 4)], true, 3, 24, [.int .i64 0, .int .i64 0, .bool false]⟩
def i88 : TI := ⟨.other, false, 1, 8, [.nilFunc]⟩
def i89 : TI := ⟨.other, false, 1, 8, [.nilFunc]⟩
def i90 : TI := ⟨.other, false, 1, 8, [.nilFunc]⟩
def i91 : TI := ⟨.other, false, 1, 8, [.nilFunc]⟩
def i92 : TI := ⟨.other, false, 1, 8, [.nilFunc]⟩
def i93 : TI := ⟨.struct [(0, 3), (1, 3)], true, 2, 16, [.int .i64 0, .int .i64 0]⟩
def i94 : TI := ⟨.struct [(0, 3), (1, 3)], true, 2, 16, [.int .i64 0, .int .i64 0]⟩
def i95 : TI := ⟨.other, false, 1, 8, [.nilFunc]⟩
def i96 : TI := ⟨.other, false, 1, 8, [.nilFunc]⟩
def i97 : TI := ⟨.other, false, 1, 8, [.nilFunc]⟩
def i98 : TI := ⟨.other, false, 1, 8, [.nilFunc]⟩
def i99 : TI := ⟨.other, false, 1, 8, [.nilFunc]⟩
def i100 : TI := ⟨.other, false, 1, 8, [.nilFunc]⟩
def i101 : TI := ⟨.other, false, 1, 8, [.nilFunc]⟩
def i102 : TI := ⟨.other, false, 1, 8, [.nilFunc]⟩
def i103 : TI := ⟨.other, false, 1, 8, [.nilFunc]⟩
def i104 : TI := ⟨.other, false, 1, 8, [.nilFunc]⟩
def i105 : TI := ⟨.slice 30, false, 1, 24, [.slice none 0 0]⟩
def i106 : TI := ⟨.other, false, 1, 8, [.nilFunc]⟩
def i107 : TI := ⟨.other, false, 1, 8, [.nilFunc]⟩
def i108 : TI := ⟨.other, false, 1, 8, [.nilFunc]⟩
def i109 : TI := ⟨.other, false, 1, 8, [.nilFunc]⟩
def i110 : TI := ⟨.other, false, 1, 8, [.nilFunc]⟩
def i111 : TI := ⟨.other, false, 1, 8, [.nilFunc]⟩
def i112 : TI := ⟨.other, false, 1, 8, [.nilFunc]⟩
def i113 : TI := ⟨.other, false, 1, 8, [.nilFunc]⟩
def i114 : TI := ⟨.other, false, 1, 8, [.nilFunc]⟩
def i115 : TI := ⟨.other, false, 1, 8, [.nilFunc]⟩
def i116 : TI := ⟨.other, false, 1, 8, [.nilFunc]⟩
def i117 : TI := ⟨.other, false, 1, 8, [.nilFunc]⟩
def i118 : TI := ⟨.other, false, 1, 8, [.nilFunc]⟩
def i119 : TI := ⟨.other, false, 1, 8, [.nilFunc]⟩
def i120 : TI := ⟨.other, false, 1, 8, [.nilFunc]⟩
def i121 : TI := ⟨.other, false, 1, 8, [.nilFunc]⟩
def i122 : TI := ⟨.other, false, 1, 8, [.nilFunc]⟩
def i123 : TI := ⟨.int .u64, false, 1, 8, [.int .u64 0]⟩
def i124 : TI := ⟨.other, false, 1, 8, [.nilFunc]⟩
def i125 : TI := ⟨.other, false, 1, 8, [.nilFunc]⟩
def i126 : TI := ⟨.other, false, 1, 8, [.nilFunc]⟩
def i127 : TI := ⟨.other, false, 1, 8, [.nilFunc]⟩
def i128 : TI := ⟨.other, false, 1, 8, [.nilFunc]⟩
def i129 : TI := ⟨.other, false, 1, 8, [.nilFunc]⟩
def i130 : TI := ⟨.other, false, 1, 8, [.nilFunc]⟩
def i131 : TI := ⟨.other, false, 1, 8, [.nilFunc]⟩
def i132 : TI := ⟨.int .u64, false, 1, 8, [.int .u64 0]⟩
def i133 : TI := ⟨.other, false, 1, 8, [.nilFunc]⟩
def i134 : TI := ⟨.other, false, 1, 8, [.nilFunc]⟩
def i135 : TI := ⟨.other, false, 1, 8, [.nilFunc]⟩
def i136 : TI := ⟨.other, false, 1, 8, [.nilFunc]⟩
def i137 : TI := ⟨.other, false, 1, 8, [.nilFunc]⟩
def i138 : TI := ⟨.other, false, 1, 8, [.nilFunc]⟩
def i139 : TI := ⟨.other, false, 1, 8, [.nilFunc]⟩
def i140 : TI := ⟨.other, false, 1, 8, [.nilFunc]⟩
def i141 : TI := ⟨.other, false, 1, 8, [.nilFunc]⟩
def i142 : TI := ⟨.other, false, 1, 8, [.nilFunc]⟩
def i143 : TI := ⟨.other, false, 1, 8, [.nilFunc]⟩
def i144 : TI := ⟨.other, false, 1, 8, [.nilFunc]⟩
def i145 : TI := ⟨.other, false, 1, 8, [.nilFunc]⟩
def i146 : TI := ⟨.other, false, 1, 8, [.nilFunc]⟩
def i147 : TI := ⟨.other, false, 1, 8, [.nilFunc]⟩
def i148 : TI := ⟨.other, false, 1, 8, [.nilFunc]⟩
def i149 : TI := ⟨.slice 66, false, 1, 24, [.slice none 0 0]⟩
def i150 : TI := ⟨.other, false, 1, 8, [.nilFunc]⟩
def i151 : TI := ⟨.slice 67, false, 1, 24, [.slice none 0 0]⟩
def i152 : TI := ⟨.other, false, 1, 8, [.nilFunc]⟩
def i153 : TI := ⟨.other, false, 1, 8, [.pointer none]⟩
def i154 : TI := ⟨.other, false, 1, 8, [.nilFunc]⟩
def i155 : TI := ⟨.other, false, 1, 8, [.nilFunc]⟩
def i156 : TI := ⟨.other, false, 1, 8, [.nilFunc]⟩
def i162 : TI := ⟨.other, false, 1, 8, [.nilFunc]⟩
def i163 : TI := ⟨.int .u32, false, 1, 4, [.int .u32 0]⟩
def i166 : TI := ⟨.other, false, 1, 8, [.nilFunc]⟩
def i167 : TI := ⟨.other, false, 1, 8, [.pointer none]⟩
def i170 : TI := ⟨.struct [(0, 12), (1, 12), (2, 163), (3, 164), (4, 5), (5, 5), (6, 165), (7, 166), (8, 167), (9, 168), (10, 169)], true, 11, 48, [.int .u64 0, .int .u64 0, .int .u32 0, .int .u8 0, .int .u8 0, .int .u8 0, .int .u8 0, .nilFunc, .pointer none, .int .i32 0, .int .i32 0]⟩
def T : TypeId → Option TI := tlook [(1, i1), (2, i2), (3, i3), (4, i4), (5, i5), (9, i9), (12, i12), (17, i17), (20, i20), (21, i21), (22, i22), (23, i23), (25, i25), (27, i27), (28, i28), (29, i29), (30, i30), (31, i31), (32, i32), (33, i33), (34, i34), (35, i35), (36, i36), (37, i37), (38, i38), (39, i39), (40, i40), (41, i41), (42, i42), (43, i43), (44, i44), (45, i45), (46, i46), (47, i47), (48, i48), (49, i49), (51, i51), (52, i52), (53, i53), (55, i55), (57, i57), (58, i58), (59, i59), (60, i60), (62, i62), (63, i63), (64, i64), (65, i65), (66, i66), (67, i67), (68, i68), (69, i69), (70, i70), (71, i71), (72, i72), (74, i74), (75, i75), (76, i76), (77, i77), (78, i78), (79, i79), (80, i80), (81, i81), (82, i82), (83, i83), (84, i84), (85, i85), (86, i86), (88, i88), (89, i89), (90, i90), (91, i91), (92, i92), (93, i93), (94, i94), (95, i95), (96, i96), (97, i97), (98, i98), (99, i99), (100, i100), (101, i101), (102, i102), (103, i103), (104, i104), (105, i105), (106, i106), (107, i107), (108, i108), (109, i109), (110, i110), (111, i111), (112, i112), (113, i113), (114, i114), (115, i115), (116, i116), (117, i117), (118, i118), (119, i119), (120, i120), (121, i121), (122, i122), (123, i123), (124, i124), (125, i125), (126, i126), (127, i127), (128, i128), (129, i129), (130, i130), (131, i131), (132, i132), (133, i133), (134, i134), (135, i135), (136, i136), (137, i137), (138, i138), (139, i139), (140, i140), (141, i141), (142, i142), (143, i143), (144, i144), (145, i145), (146, i146), (147, i147), (148, i148), (149, i149), (150, i150), (151, i151), (152, i152), (153, i153), (154, i154), (155, i155), (156, i156), (162, i162), (163, i163), (166, i166), (167, i167), (170, i170)]
theorem k1 : i1.ok Try.prog 1 := ti_ok (by kernel_rfl) rfl rfl (other_ok (by kernel_rfl)) (by decide)
theorem k2 : i2.ok Try.prog 2 := ti_ok (by kernel_rfl) rfl rfl (⟨by kernel_rfl, rfl⟩) (by decide)
theorem k3 : i3.ok Try.prog 3 := ti_ok (by kernel_rfl) rfl rfl (⟨by kernel_rfl, rfl⟩) (by decide)
theorem k4 : i4.ok Try.prog 4 := ti_ok (by kernel_rfl) rfl rfl (⟨by kernel_rfl, rfl⟩) (by decide)
theorem k5 : i5.ok Try.prog 5 := ti_ok (by kernel_rfl) rfl rfl (⟨by kernel_rfl, rfl⟩) (by decide)
theorem k9 : i9.ok Try.prog 9 := ti_ok (by kernel_rfl) rfl rfl (⟨by kernel_rfl, rfl⟩) (by decide)
theorem k12 : i12.ok Try.prog 12 := ti_ok (by kernel_rfl) rfl rfl (⟨by kernel_rfl, rfl⟩) (by decide)
theorem k17 : i17.ok Try.prog 17 := ti_ok (by kernel_rfl) rfl rfl (other_ok (by kernel_rfl)) (by decide)
theorem k20 : i20.ok Try.prog 20 := ti_ok (by kernel_rfl) rfl rfl (other_ok (by kernel_rfl)) (by decide)
theorem k21 : i21.ok Try.prog 21 := ti_ok (by kernel_rfl) rfl rfl (⟨by kernel_rfl, rfl⟩) (by decide)
theorem k22 : i22.ok Try.prog 22 := ti_ok (by kernel_rfl) rfl rfl (⟨by kernel_rfl, rfl⟩) (by decide)
theorem k23 : i23.ok Try.prog 23 := ti_ok (by kernel_rfl) rfl rfl (other_ok (by kernel_rfl)) (by decide)
theorem k25 : i25.ok Try.prog 25 := ti_ok (by kernel_rfl) rfl rfl (other_ok (by kernel_rfl)) (by decide)
theorem k27 : i27.ok Try.prog 27 := ti_ok (by kernel_rfl) rfl rfl (other_ok (by kernel_rfl)) (by decide)
theorem k28 : i28.ok Try.prog 28 := ti_ok (by kernel_rfl) rfl rfl (other_ok (by kernel_rfl)) (by decide)
theorem k29 : i29.ok Try.prog 29 := ti_ok (by kernel_rfl) rfl rfl (other_ok (by kernel_rfl)) (by decide)
theorem k30 : i30.ok Try.prog 30 := ti_ok (by kernel_rfl) rfl rfl (⟨by kernel_rfl, rfl⟩) (by decide)
theorem k31 : i31.ok Try.prog 31 := ti_ok (by kernel_rfl) rfl rfl (other_ok (by kernel_rfl)) (by decide)
theorem k32 : i32.ok Try.prog 32 := ti_ok (by kernel_rfl) rfl rfl (other_ok (by kernel_rfl)) (by decide)
theorem k33 : i33.ok Try.prog 33 := ti_ok (by kernel_rfl) rfl rfl (other_ok (by kernel_rfl)) (by decide)
theorem k34 : i34.ok Try.prog 34 := ti_ok (by kernel_rfl) rfl rfl (other_ok (by kernel_rfl)) (by decide)
theorem k35 : i35.ok Try.prog 35 := ti_ok (by kernel_rfl) rfl rfl (other_ok (by kernel_rfl)) (by decide)
theorem k36 : i36.ok Try.prog 36 := ti_ok (by kernel_rfl) rfl rfl (⟨by kernel_rfl, rfl⟩) (by decide)
theorem k37 : i37.ok Try.prog 37 := ti_ok (by kernel_rfl) rfl rfl (struct_ok (by kernel_rfl)) (by decide)
theorem k38 : i38.ok Try.prog 38 := ti_ok (by kernel_rfl) rfl rfl (struct_ok (by kernel_rfl)) (by decide)
theorem k39 : i39.ok Try.prog 39 := ti_ok (by kernel_rfl) rfl rfl (other_ok (by kernel_rfl)) (by decide)
theorem k40 : i40.ok Try.prog 40 := ti_ok (by kernel_rfl) rfl rfl (struct_ok (by kernel_rfl)) (by decide)
theorem k41 : i41.ok Try.prog 41 := ti_ok (by kernel_rfl) rfl rfl (struct_ok (by kernel_rfl)) (by decide)
theorem k42 : i42.ok Try.prog 42 := ti_ok (by kernel_rfl) rfl rfl (other_ok (by kernel_rfl)) (by decide)
theorem k43 : i43.ok Try.prog 43 := ti_ok (by kernel_rfl) rfl rfl (other_ok (by kernel_rfl)) (by decide)
theorem k44 : i44.ok Try.prog 44 := ti_ok (by kernel_rfl) rfl rfl (other_ok (by kernel_rfl)) (by decide)
theorem k45 : i45.ok Try.prog 45 := ti_ok (by kernel_rfl) rfl rfl (other_ok (by kernel_rfl)) (by decide)
theorem k46 : i46.ok Try.prog 46 := ti_ok (by kernel_rfl) rfl rfl (⟨by kernel_rfl, rfl⟩) (by decide)
theorem k47 : i47.ok Try.prog 47 := ti_ok (by kernel_rfl) rfl rfl (struct_ok (by kernel_rfl)) (by decide)
theorem k48 : i48.ok Try.prog 48 := ti_ok (by kernel_rfl) rfl rfl (struct_ok (by kernel_rfl)) (by decide)
theorem k49 : i49.ok Try.prog 49 := ti_ok (by kernel_rfl) rfl rfl (other_ok (by kernel_rfl)) (by decide)
theorem k51 : i51.ok Try.prog 51 := ti_ok (by kernel_rfl) rfl rfl (other_ok (by kernel_rfl)) (by decide)
theorem k52 : i52.ok Try.prog 52 := ti_ok (by kernel_rfl) rfl rfl (struct_ok (by kernel_rfl)) (by decide)
theorem k53 : i53.ok Try.prog 53 := ti_ok (by kernel_rfl) rfl rfl (struct_ok (by kernel_rfl)) (by decide)
theorem k55 : i55.ok Try.prog 55 := ti_ok (by kernel_rfl) rfl rfl (other_ok (by kernel_rfl)) (by decide)
theorem k57 : i57.ok Try.prog 57 := ti_ok (by kernel_rfl) rfl rfl (other_ok (by kernel_rfl)) (by decide)
theorem k58 : i58.ok Try.prog 58 := ti_ok (by kernel_rfl) rfl rfl (other_ok (by kernel_rfl)) (by decide)
theorem k59 : i59.ok Try.prog 59 := ti_ok (by kernel_rfl) rfl rfl (other_ok (by kernel_rfl)) (by decide)
theorem k60 : i60.ok Try.prog 60 := ti_ok (by kernel_rfl) rfl rfl (other_ok (by kernel_rfl)) (by decide)
theorem k62 : i62.ok Try.prog 62 := ti_ok (by kernel_rfl) rfl rfl (other_ok (by kernel_rfl)) (by decide)
theorem k63 : i63.ok Try.prog 63 := ti_ok (by kernel_rfl) rfl rfl (other_ok (by kernel_rfl)) (by decide)
theorem k64 : i64.ok Try.prog 64 := ti_ok (by kernel_rfl) rfl rfl (other_ok (by kernel_rfl)) (by decide)
theorem k65 : i65.ok Try.prog 65 := ti_ok (by kernel_rfl) rfl rfl (other_ok (by kernel_rfl)) (by decide)
theorem k66 : i66.ok Try.prog 66 := ti_ok (by kernel_rfl) rfl rfl (⟨by kernel_rfl, rfl⟩) (by decide)
theorem k67 : i67.ok Try.prog 67 := ti_ok (by kernel_rfl) rfl rfl (⟨by kernel_rfl, rfl⟩) (by decide)
theorem k68 : i68.ok Try.prog 68 := ti_ok (by kernel_rfl) rfl rfl (struct_ok (by kernel_rfl)) (by decide)
theorem k69 : i69.ok Try.prog 69 := ti_ok (by kernel_rfl) rfl rfl (struct_ok (by kernel_rfl)) (by decide)
theorem k70 : i70.ok Try.prog 70 := ti_ok (by kernel_rfl) rfl rfl (struct_ok (by kernel_rfl)) (by decide)
theorem k71 : i71.ok Try.prog 71 := ti_ok (by kernel_rfl) rfl rfl (struct_ok (by kernel_rfl)) (by decide)
theorem k72 : i72.ok Try.prog 72 := ti_ok (by kernel_rfl) rfl rfl (other_ok (by kernel_rfl)) (by decide)
theorem k74 : i74.ok Try.prog 74 := ti_ok (by kernel_rfl) rfl rfl (other_ok (by kernel_rfl)) (by decide)
theorem k75 : i75.ok Try.prog 75 := ti_ok (by kernel_rfl) rfl rfl (⟨by kernel_rfl, rfl⟩) (by decide)
theorem k76 : i76.ok Try.prog 76 := ti_ok (by kernel_rfl) rfl rfl (other_ok (by kernel_rfl)) (by decide)
theorem k77 : i77.ok Try.prog 77 := ti_ok (by kernel_rfl) rfl rfl (other_ok (by kernel_rfl)) (by decide)
theorem k78 : i78.ok Try.prog 78 := ti_ok (by kernel_rfl) rfl rfl (other_ok (by kernel_rfl)) (by decide)
theorem k79 : i79.ok Try.prog 79 := ti_ok (by kernel_rfl) rfl rfl (other_ok (by kernel_rfl)) (by decide)
theorem k80 : i80.ok Try.prog 80 := ti_ok (by kernel_rfl) rfl rfl (other_ok (by kernel_rfl)) (by decide)
theorem k81 : i81.ok Try.prog 81 := ti_ok (by kernel_rfl) rfl rfl (other_ok (by kernel_rfl)) (by decide)
theorem k82 : i82.ok Try.prog 82 := ti_ok (by kernel_rfl) rfl rfl (other_ok (by kernel_rfl)) (by decide)
theorem k83 : i83.ok Try.prog 83 := ti_ok (by kernel_rfl) rfl rfl (other_ok (by kernel_rfl)) (by decide)
theorem k84 : i84.ok Try.prog 84 := ti_ok (by kernel_rfl) rfl rfl (⟨by kernel_rfl, rfl⟩) (by decide)
theorem k85 : i85.ok Try.prog 85 := ti_ok (by kernel_rfl) rfl rfl (struct_ok (by kernel_rfl)) (by decide)
theorem k86 : i86.ok Try.prog 86 := ti_ok (by kernel_rfl) rfl rfl (struct_ok (by kernel_rfl)) (by decide)
theorem k88 : i88.ok Try.prog 88 := ti_ok (by kernel_rfl) rfl rfl (other_ok (by kernel_rfl)) (by decide)
theorem k89 : i89.ok Try.prog 89 := ti_ok (by kernel_rfl) rfl rfl (other_ok (by kernel_rfl)) (by decide)
theorem k90 : i90.ok Try.prog 90 := ti_ok (by kernel_rfl) rfl rfl (other_ok (by kernel_rfl)) (by decide)
theorem k91 : i91.ok Try.prog 91 := ti_ok (by kernel_rfl) rfl rfl (other_ok (by kernel_rfl)) (by decide)
theorem k92 : i92.ok Try.prog 92 := ti_ok (by kernel_rfl) rfl rfl (other_ok (by kernel_rfl)) (by decide)
theorem k93 : i93.ok Try.prog 93 := ti_ok (by kernel_rfl) rfl rfl (struct_ok (by kernel_rfl)) (by decide)
theorem k94 : i94.ok Try.prog 94 := ti_ok (by kernel_rfl) rfl rfl (struct_ok (by kernel_rfl)) (by decide)
theorem k95 : i95.ok Try.prog 95 := ti_ok (by kernel_rfl) rfl rfl (other_ok (by kernel_rfl)) (by decide)
theorem k96 : i96.ok Try.prog 96 := ti_ok (by kernel_rfl) rfl rfl (other_ok (by kernel_rfl)) (by decide)
theorem k97 : i97.ok Try.prog 97 := ti_ok (by kernel_rfl) rfl rfl (other_ok (by kernel_rfl)) (by decide)
theorem k98 : i98.ok Try.prog 98 := ti_ok (by kernel_rfl) rfl rfl (other_ok (by kernel_rfl)) (by decide)
theorem k99 : i99.ok Try.prog 99 := ti_ok (by kernel_rfl) rfl rfl (other_ok (by kernel_rfl)) (by decide)
theorem k100 : i100.ok Try.prog 100 := ti_ok (by kernel_rfl) rfl rfl (other_ok (by kernel_rfl)) (by decide)
theorem k101 : i101.ok Try.prog 101 := ti_ok (by kernel_rfl) rfl rfl (other_ok (by kernel_rfl)) (by decide)
theorem k102 : i102.ok Try.prog 102 := ti_ok (by kernel_rfl) rfl rfl (other_ok (by kernel_rfl)) (by decide)
theorem k103 : i103.ok Try.prog 103 := ti_ok (by kernel_rfl) rfl rfl (other_ok (by kernel_rfl)) (by decide)
theorem k104 : i104.ok Try.prog 104 := ti_ok (by kernel_rfl) rfl rfl (other_ok (by kernel_rfl)) (by decide)
theorem k105 : i105.ok Try.prog 105 := ti_ok (by kernel_rfl) rfl rfl (⟨by kernel_rfl, rfl⟩) (by decide)
theorem k106 : i106.ok Try.prog 106 := ti_ok (by kernel_rfl) rfl rfl (other_ok (by kernel_rfl)) (by decide)
theorem k107 : i107.ok Try.prog 107 := ti_ok (by kernel_rfl) rfl rfl (other_ok (by kernel_rfl)) (by decide)
theorem k108 : i108.ok Try.prog 108 := ti_ok (by kernel_rfl) rfl rfl (other_ok (by kernel_rfl)) (by decide)
theorem k109 : i109.ok Try.prog 109 := ti_ok (by kernel_rfl) rfl rfl (other_ok (by kernel_rfl)) (by decide)
theorem k110 : i110.ok Try.prog 110 := ti_ok (by kernel_rfl) rfl rfl (other_ok (by kernel_rfl)) (by decide)
theorem k111 : i111.ok Try.prog 111 := ti_ok (by kernel_rfl) rfl rfl (other_ok (by kernel_rfl)) (by decide)
theorem k112 : i112.ok Try.prog 112 := ti_ok (by kernel_rfl) rfl rfl (other_ok (by kernel_rfl)) (by decide)
theorem k113 : i113.ok Try.prog 113 := ti_ok (by kernel_rfl) rfl rfl (other_ok (by kernel_rfl)) (by decide)
theorem k114 : i114.ok Try.prog 114 := ti_ok (by kernel_rfl) rfl rfl (other_ok (by kernel_rfl)) (by decide)
theorem k115 : i115.ok Try.prog 115 := ti_ok (by kernel_rfl) rfl rfl (other_ok (by kernel_rfl)) (by decide)
theorem k116 : i116.ok Try.prog 116 := ti_ok (by kernel_rfl) rfl rfl (other_ok (by kernel_rfl)) (by decide)
theorem k117 : i117.ok Try.prog 117 := ti_ok (by kernel_rfl) rfl rfl (other_ok (by kernel_rfl)) (by decide)
theorem k118 : i118.ok Try.prog 118 := ti_ok (by kernel_rfl) rfl rfl (other_ok (by kernel_rfl)) (by decide)
theorem k119 : i119.ok Try.prog 119 := ti_ok (by kernel_rfl) rfl rfl (other_ok (by kernel_rfl)) (by decide)
theorem k120 : i120.ok Try.prog 120 := ti_ok (by kernel_rfl) rfl rfl (other_ok (by kernel_rfl)) (by decide)
theorem k121 : i121.ok Try.prog 121 := ti_ok (by kernel_rfl) rfl rfl (other_ok (by kernel_rfl)) (by decide)
theorem k122 : i122.ok Try.prog 122 := ti_ok (by kernel_rfl) rfl rfl (other_ok (by kernel_rfl)) (by decide)
theorem k123 : i123.ok Try.prog 123 := ti_ok (by kernel_rfl) rfl rfl (⟨by kernel_rfl, rfl⟩) (by decide)
theorem k124 : i124.ok Try.prog 124 := ti_ok (by kernel_rfl) rfl rfl (other_ok (by kernel_rfl)) (by decide)
theorem k125 : i125.ok Try.prog 125 := ti_ok (by kernel_rfl) rfl rfl (other_ok (by kernel_rfl)) (by decide)
theorem k126 : i126.ok Try.prog 126 := ti_ok (by kernel_rfl) rfl rfl (other_ok (by kernel_rfl)) (by decide)
theorem k127 : i127.ok Try.prog 127 := ti_ok (by kernel_rfl) rfl rfl (other_ok (by kernel_rfl)) (by decide)
theorem k128 : i128.ok Try.prog 128 := ti_ok (by kernel_rfl) rfl rfl (other_ok (by kernel_rfl)) (by decide)
theorem k129 : i129.ok Try.prog 129 := ti_ok (by kernel_rfl) rfl rfl (other_ok (by kernel_rfl)) (by decide)
theorem k130 : i130.ok Try.prog 130 := ti_ok (by kernel_rfl) rfl rfl (other_ok (by kernel_rfl)) (by decide)
theorem k131 : i131.ok Try.prog 131 := ti_ok (by kernel_rfl) rfl rfl (other_ok (by kernel_rfl)) (by decide)
theorem k132 : i132.ok Try.prog 132 := ti_ok (by kernel_rfl) rfl rfl (⟨by kernel_rfl, rfl⟩) (by decide)
theorem k133 : i133.ok Try.prog 133 := ti_ok (by kernel_rfl) rfl rfl (other_ok (by kernel_rfl)) (by decide)
theorem k134 : i134.ok Try.prog 134 := ti_ok (by kernel_rfl) rfl rfl (other_ok (by kernel_rfl)) (by decide)
theorem k135 : i135.ok Try.prog 135 := ti_ok (by kernel_rfl) rfl rfl (other_ok (by kernel_rfl)) (by decide)
theorem k136 : i136.ok Try.prog 136 := ti_ok (by kernel_rfl) rfl rfl (other_ok (by kernel_rfl)) (by decide)
theorem k137 : i137.ok Try.prog 137 := ti_ok (by kernel_rfl) rfl rfl (other_ok (by kernel_rfl)) (by decide)
theorem k138 : i138.ok Try.prog 138 := ti_ok (by kernel_rfl) rfl rfl (other_ok (by kernel_rfl)) (by decide)
theorem k139 : i139.ok Try.prog 139 := ti_ok (by kernel_rfl) rfl rfl (other_ok (by kernel_rfl)) (by decide)
theorem k140 : i140.ok Try.prog 140 := ti_ok (by kernel_rfl) rfl rfl (other_ok (by kernel_rfl)) (by decide)
theorem k141 : i141.ok Try.prog 141 := ti_ok (by kernel_rfl) rfl rfl (other_ok (by kernel_rfl)) (by decide)
theorem k142 : i142.ok Try.prog 142 := ti_ok (by kernel_rfl) rfl rfl (other_ok (by kernel_rfl)) (by decide)
theorem k143 : i143.ok Try.prog 143 := ti_ok (by kernel_rfl) rfl rfl (other_ok (by kernel_rfl)) (by decide)
theorem k144 : i144.ok Try.prog 144 := ti_ok (by kernel_rfl) rfl rfl (other_ok (by kernel_rfl)) (by decide)
theorem k145 : i145.ok Try.prog 145 := ti_ok (by kernel_rfl) rfl rfl (other_ok (by kernel_rfl)) (by decide)
theorem k146 : i146.ok Try.prog 146 := ti_ok (by kernel_rfl) rfl rfl (other_ok (by kernel_rfl)) (by decide)
theorem k147 : i147.ok Try.prog 147 := ti_ok (by kernel_rfl) rfl rfl (other_ok (by kernel_rfl)) (by decide)
theorem k148 : i148.ok Try.prog 148 := ti_ok (by kernel_rfl) rfl rfl (other_ok (by kernel_rfl)) (by decide)
theorem k149 : i149.ok Try.prog 149 := ti_ok (by kernel_rfl) rfl rfl (⟨by kernel_rfl, rfl⟩) (by decide)
theorem k150 : i150.ok Try.prog 150 := ti_ok (by kernel_rfl) rfl rfl (other_ok (by kernel_rfl)) (by decide)
theorem k151 : i151.ok Try.prog 151 := ti_ok (by kernel_rfl) rfl rfl (⟨by kernel_rfl, rfl⟩) (by decide)
theorem k152 : i152.ok Try.prog 152 := ti_ok (by kernel_rfl) rfl rfl (other_ok (by kernel_rfl)) (by decide)
theorem k153 : i153.ok Try.prog 153 := ti_ok (by kernel_rfl) rfl rfl (other_ok (by kernel_rfl)) (by decide)
theorem k154 : i154.ok Try.prog 154 := ti_ok (by kernel_rfl) rfl rfl (other_ok (by kernel_rfl)) (by decide)
theorem k155 : i155.ok Try.prog 155 := ti_ok (by kernel_rfl) rfl rfl (other_ok (by kernel_rfl)) (by decide)
theorem k156 : i156.ok Try.prog 156 := ti_ok (by kernel_rfl) rfl rfl (other_ok (by kernel_rfl)) (by decide)
theorem k162 : i162.ok Try.prog 162 := ti_ok (by kernel_rfl) rfl rfl (other_ok (by kernel_rfl)) (by decide)
theorem k163 : i163.ok Try.prog 163 := ti_ok (by kernel_rfl) rfl rfl (⟨by kernel_rfl, rfl⟩) (by decide)
theorem k166 : i166.ok Try.prog 166 := ti_ok (by kernel_rfl) rfl rfl (other_ok (by kernel_rfl)) (by decide)
theorem k167 : i167.ok Try.prog 167 := ti_ok (by kernel_rfl) rfl rfl (other_ok (by kernel_rfl)) (by decide)
theorem k170 : i170.ok Try.prog 170 := ti_ok (by kernel_rfl) rfl rfl (struct_ok (by kernel_rfl)) (by decide)
theorem ok : TOk Try.prog T := by
  unfold T
  refine tok_cons k1 ?_
  refine tok_cons k2 ?_
  refine tok_cons k3 ?_
  refine tok_cons k4 ?_
  refine tok_cons k5 ?_
  refine tok_cons k9 ?_
  refine tok_cons k12 ?_
  refine tok_cons k17 ?_
  refine tok_cons k20 ?_
  refine tok_cons k21 ?_
  refine tok_cons k22 ?_
  refine tok_cons k23 ?_
  refine tok_cons k25 ?_
  refine tok_cons k27 ?_
  refine tok_cons k28 ?_
  refine tok_cons k29 ?_
  refine tok_cons k30 ?_
  refine tok_cons k31 ?_
  refine tok_cons k32 ?_
  refine tok_cons k33 ?_
  refine tok_cons k34 ?_
  refine tok_cons k35 ?_
  refine tok_cons k36 ?_
  refine tok_cons k37 ?_
  refine tok_cons k38 ?_
  refine tok_cons k39 ?_
  refine tok_cons k40 ?_
  refine tok_cons k41 ?_
  refine tok_cons k42 ?_
  refine tok_cons k43 ?_
  refine tok_cons k44 ?_
  refine tok_cons k45 ?_
  refine tok_cons k46 ?_
  refine tok_cons k47 ?_
  refine tok_cons k48 ?_
  refine tok_cons k49 ?_
  refine tok_cons k51 ?_
  refine tok_cons k52 ?_
  refine tok_cons k53 ?_
  refine tok_cons k55 ?_
  refine tok_cons k57 ?_
  refine tok_cons k58 ?_
  refine tok_cons k59 ?_
  refine tok_cons k60 ?_
  refine tok_cons k62 ?_
  refine tok_cons k63 ?_
  refine tok_cons k64 ?_
  refine tok_cons k65 ?_
  refine tok_cons k66 ?_
  refine tok_cons k67 ?_
  refine tok_cons k68 ?_
  refine tok_cons k69 ?_
  refine tok_cons k70 ?_
  refine tok_cons k71 ?_
  refine tok_cons k72 ?_
  refine tok_cons k74 ?_
  refine tok_cons k75 ?_
  refine tok_cons k76 ?_
  refine tok_cons k77 ?_
  refine tok_cons k78 ?_
  refine tok_cons k79 ?_
  refine tok_cons k80 ?_
  refine tok_cons k81 ?_
  refine tok_cons k82 ?_
  refine tok_cons k83 ?_
  refine tok_cons k84 ?_
  refine tok_cons k85 ?_
  refine tok_cons k86 ?_
  refine tok_cons k88 ?_
  refine tok_cons k89 ?_
  refine tok_cons k90 ?_
  refine tok_cons k91 ?_
  refine tok_cons k92 ?_
  refine tok_cons k93 ?_
  refine tok_cons k94 ?_
  refine tok_cons k95 ?_
  refine tok_cons k96 ?_
  refine tok_cons k97 ?_
  refine tok_cons k98 ?_
  refine tok_cons k99 ?_
  refine tok_cons k100 ?_
  refine tok_cons k101 ?_
  refine tok_cons k102 ?_
  refine tok_cons k103 ?_
  refine tok_cons k104 ?_
  refine tok_cons k105 ?_
  refine tok_cons k106 ?_
  refine tok_cons k107 ?_
  refine tok_cons k108 ?_
  refine tok_cons k109 ?_
  refine tok_cons k110 ?_
  refine tok_cons k111 ?_
  refine tok_cons k112 ?_
  refine tok_cons k113 ?_
  refine tok_cons k114 ?_
  refine tok_cons k115 ?_
  refine tok_cons k116 ?_
  refine tok_cons k117 ?_
  refine tok_cons k118 ?_
  refine tok_cons k119 ?_
  refine tok_cons k120 ?_
  refine tok_cons k121 ?_
  refine tok_cons k122 ?_
  refine tok_cons k123 ?_
  refine tok_cons k124 ?_
  refine tok_cons k125 ?_
  refine tok_cons k126 ?_
  refine tok_cons k127 ?_
  refine tok_cons k128 ?_
  refine tok_cons k129 ?_
  refine tok_cons k130 ?_
  refine tok_cons k131 ?_
  refine tok_cons k132 ?_
  refine tok_cons k133 ?_
  refine tok_cons k134 ?_
  refine tok_cons k135 ?_
  refine tok_cons k136 ?_
  refine tok_cons k137 ?_
  refine tok_cons k138 ?_
  refine tok_cons k139 ?_
  refine tok_cons k140 ?_
  refine tok_cons k141 ?_
  refine tok_cons k142 ?_
  refine tok_cons k143 ?_
  refine tok_cons k144 ?_
  refine tok_cons k145 ?_
  refine tok_cons k146 ?_
  refine tok_cons k147 ?_
  refine tok_cons k148 ?_
  refine tok_cons k149 ?_
  refine tok_cons k150 ?_
  refine tok_cons k151 ?_
  refine tok_cons k152 ?_
  refine tok_cons k153 ?_
  refine tok_cons k154 ?_
  refine tok_cons k155 ?_
  refine tok_cons k156 ?_
  refine tok_cons k162 ?_
  refine tok_cons k163 ?_
  refine tok_cons k166 ?_
  refine tok_cons k167 ?_
  refine tok_cons k170 ?_
  exact tok_nil
theorem mixed : Try.prog.follows .mixedOrders = true := by kernel_rfl
end RdT
end Go.Proofs.Ytfdaioinghfjpaa
namespace Go.Rd
open Go.RowKit Go.Proofs Go.ChangeShapes Go.WideShapes
theorem law_walk {P : Program} {f : FuncId} {args : List AV} (h : ACv P f args fun v => v = bool true) (W : World) (vals : List Value) (hl : vals.length = args.length)
    (hv : ∀ (i : Nat) (y : AV) (u : Value), args[i]? = some y → vals[i]? = some u → RepA W (Gd W (fun _ _ => 0) fun _ _ => none) (fun _ _ => 0) (fun _ _ => none) y u) :
    Calls P f vals.toArray W fun e w' => e = .returned (.bool true) ∧ Below W.heap.size W w' := by
  have hA := (h 1 (fun _ _ => none) (by decide)).2 W (fun _ _ => 0) vals (fun _ _ _ => rfl) (fun _ _ _ _ h => by cases h) ⟨fun _ _ _ h => (by cases h), fun _ _ _ _ _ _ h => (by cases h)⟩ hl hv
  refine hA.mono ?_
  rintro e w' ⟨r, S', v, ι', ⟨rfl, tv, rfl, rfl⟩, rfl, _, _, _, hm, hr⟩
  have := (RepP.lit_inv hr).1
  subst this
  refine ⟨rfl, hm.os, hm.tape, hm.output, hm.size, fun k hk => hm.keep k hk ?_⟩
  rintro ⟨_, _, _, ho, _⟩
  cases ho
section
variable {H : Type} {enc : TypeId × Value → H} {P : Program} {w : World} {base : Nat} {held : Bool}
theorem fields_at {fs : Array Field} {l : List (Nat × TypeId)} (h : fs.toList.map (fun x => (x.offset, x.type)) = l) {i off : Nat} {t : TypeId} (hi : l[i]? = some (off, t)) : ∃ f, fs[i]? = some f ∧ f.offset = off ∧ f.type = t := by
  subst h
  rw [List.getElem?_map] at hi
  cases hf : fs.toList[i]? with
  | none => simp [hf] at hi
  | some f =>
    simp only [hf, Option.map_some, Option.some.injEq, Prod.mk.injEq] at hi
    exact ⟨f, by simpa using hf, hi.1, hi.2⟩
theorem struct_field {e t : TypeId} {l : List (Nat × TypeId)} {n : Nat} {cs : List Value} {y : DataW H × List MemPlace} (hs : structOf P e = some l) (h : DataW.trod enc P w base (fun _ => true) held n e cs = some y) {i off : Nat} (hi : l[i]? = some (off, t)) :
    cs.length = P.cellsOf e ∧ ∃ m y', DataW.trod enc P w base (fun _ => true) held m t ((cs.drop off).take (P.cellsOf t)) = some y' := by
  unfold structOf at hs
  split at hs
  · rename_i fs hfs
    simp only [Option.some.injEq] at hs
    obtain ⟨f, h1, rfl, rfl⟩ := fields_at hs hi
    obtain ⟨xs, m, _, _, hlen, hx, hf⟩ := DataW.trod_struct hfs h
    refine ⟨hlen, m, ?_⟩
    have hlt : i < fs.size := (Array.getElem?_eq_some_iff.1 h1).1
    exact ⟨xs[i]'(by omega), by rw [hf i f h1, List.getElem?_eq_getElem (by omega)]⟩
  · cases hs
def Reads (P : Program) (e : TypeId) (k : Nat) {α : Type} (el : α → List PV) (wf : α → Prop) : Prop :=
  P.cellsOf e = k ∧ ∀ (H : Type) (enc : TypeId × Value → H) (w : World) (base : Nat) (held : Bool) (n : Nat) (cs : List Value) (y : DataW H × List MemPlace), DataW.trod enc P w base (fun _ => true) held n e cs = some y →
    ∃ u : α, wf u ∧ (el u).length = k ∧ ∀ (j : Nat) (x : PV), (el u)[j]? = some x → ∃ v, cs[j]? = some v ∧ RepP w (Gd w (fun _ _ => 0) fun _ _ => none) x v
def encB (b : Bool) : List PV := [.lit (.bool b)]
theorem take_one {cs : List Value} {off : Nat} {v : Value} (h : (cs.drop off).take 1 = [v]) : cs[off]? = some v := by
  have := congrArg (fun l => l[0]?) h
  simpa using this
theorem field_int {e t : TypeId} {l : List (Nat × TypeId)} {n : Nat} {cs : List Value} {y : DataW H × List MemPlace} (hs : structOf P e = some l) (h : DataW.trod enc P w base (fun _ => true) held n e cs = some y) {i off : Nat} (hi : l[i]? = some (off, t))
    {k : IntKind} (ht : P.underlying t = some (.int k)) (hc : P.cellsOf t = 1) : ∃ m, cs[off]? = some (.int k m) ∧ (Lit.int k m).wf = true := by
  obtain ⟨_, m, y', h'⟩ := struct_field hs h hi
  rw [hc] at h'
  obtain ⟨z, hz, _, hw⟩ := DataW.trod_int ht h'
  exact ⟨z, take_one hz, hw⟩
theorem field_bool {e t : TypeId} {l : List (Nat × TypeId)} {n : Nat} {cs : List Value} {y : DataW H × List MemPlace} (hs : structOf P e = some l) (h : DataW.trod enc P w base (fun _ => true) held n e cs = some y) {i off : Nat} (hi : l[i]? = some (off, t))
    (ht : P.underlying t = some .bool) (hc : P.cellsOf t = 1) : ∃ b, cs[off]? = some (.bool b) := by
  obtain ⟨_, m, y', h'⟩ := struct_field hs h hi
  rw [hc] at h'
  obtain ⟨z, hz, _⟩ := DataW.trod_bool ht h'
  exact ⟨z, take_one hz⟩
def slP {α : Type} (esz : Nat) (el : α → List PV) : Option (List α) → PV
  | none => .lit (.slice none 0 0)
  | some l => .row esz (l.map el)
def slA {α : Type} (esz : Nat) (el : α → List PV) (o : Option (List α)) : AV := .s (.pv (slP esz el o))
theorem rows_read {e : TypeId} {k : Nat} {α : Type} {el : α → List PV} {wf : α → Prop} (hR : Reads P e k el wf) (hk : 0 < k) {a : Addr} {len0 cap0 n : Nat} {D : Nat → DataW H} {Pl : Nat → List MemPlace} (hl : len0 ≤ cap0) (hm : cap0 ≤ maxLen)
    (hel : ∀ i, i < cap0 → ∃ cs', w.cells? base (a.add (i * P.cellsOf e)) (P.cellsOf e) = some cs' ∧ DataW.trod enc P w base (fun _ => true) held n e cs' = some (D i, Pl i)) :
    ∃ l : List α, (∀ u ∈ l, wf u) ∧ RepP w (Gd w (fun _ _ => 0) fun _ _ => none) (.row k (l.map el)) (.slice (some a) len0 cap0) := by
  rcases Nat.eq_zero_or_pos cap0 with rfl | hpos
  · obtain rfl : len0 = 0 := by omega
    exact ⟨[], by simp, RepP.mk_rowS (es := []) (cap := 0) (.inr rfl) (by simp) (by omega) ⟨fun i x hx => by simp at hx, fun hne => absurd rfl hne, by simp, fun i j x y hx => by simp at hx⟩⟩
  obtain ⟨hc, hR⟩ := hR
  have hspot : a.spot = none := by
    obtain ⟨cs', h1, _⟩ := hel 0 hpos
    obtain ⟨_, hlen, hget⟩ := World.cells?_some h1
    have := hget 0 (by omega)
    rw [Nat.zero_mul] at this
    have e0 : (a.add 0).add 0 = a := by simp [Addr.add]
    rw [e0] at this
    rw [List.getElem?_eq_getElem (by omega)] at this
    exact World.cell?_spot this
  have hex : ∀ i, i < len0 → ∃ u : α, wf u ∧ (el u).length = k ∧ ∀ (j : Nat) (x : PV), (el u)[j]? = some x → ∃ v, w.cell? ⟨a.block, a.off + i * k + j, none⟩ = some v ∧ RepP w (Gd w (fun _ _ => 0) fun _ _ => none) x v := by
    intro i hi
    obtain ⟨cs', h1, h2⟩ := hel i (by omega)
    obtain ⟨u, q1, q2, q3⟩ := hR H enc w base held n cs' _ h2
    refine ⟨u, q1, q2, fun j x hx => ?_⟩
    obtain ⟨v, hv, hr⟩ := q3 j x hx
    refine ⟨v, ?_, hr⟩
    obtain ⟨_, hlen, hget⟩ := World.cells?_some h1
    have hj : j < cs'.length := (List.getElem?_eq_some_iff.1 hv).1
    have := hget j (by omega)
    rw [hc, Go.Deep.add_add] at this
    rw [hv] at this
    have e : a.add (i * k + j) = ⟨a.block, a.off + i * k + j, none⟩ := by
      unfold Addr.add
      split
      · rename_i h0
        obtain ⟨b, o, s⟩ := a
        simp only at hspot
        subst hspot
        simp only [Addr.mk.injEq, true_and, and_true]
        omega
      · simp
    rw [← e]
    exact this
  obtain ⟨l, hl1, hl2⟩ : ∃ l : List α, l.length = len0 ∧ ∀ i u, l[i]? = some u → wf u ∧ (el u).length = k ∧ ∀ (j : Nat) (x : PV), (el u)[j]? = some x → ∃ v, w.cell? ⟨a.block, a.off + i * k + j, none⟩ = some v ∧ RepP w (Gd w (fun _ _ => 0) fun _ _ => none) x v := by
    clear hel
    have : ∀ q, q ≤ len0 → ∃ l : List α, l.length = q ∧ ∀ i u, l[i]? = some u → wf u ∧ (el u).length = k ∧ ∀ (j : Nat) (x : PV), (el u)[j]? = some x → ∃ v, w.cell? ⟨a.block, a.off + i * k + j, none⟩ = some v ∧ RepP w (Gd w (fun _ _ => 0) fun _ _ => none) x v := by
      intro q
      induction q with
      | zero => exact fun _ => ⟨[], rfl, fun i u hu => by simp at hu⟩
      | succ q ih =>
        intro hq
        obtain ⟨l, h1, h2⟩ := ih (by omega)
        obtain ⟨u, hu⟩ := hex q (by omega)
        refine ⟨l ++ [u], by simp [h1], fun i u' hu' => ?_⟩
        rcases Nat.lt_or_ge i l.length with hi | hi
        · rw [List.getElem?_append_left hi] at hu'
          exact h2 i u' hu'
        · rw [List.getElem?_append_right hi] at hu'
          have : i - l.length = 0 := by
            have := (List.getElem?_eq_some_iff.1 hu').1
            simp at this; omega
          rw [this] at hu'
          simp only [List.getElem?_cons_zero, Option.some.injEq] at hu'
          subst hu'
          have : i = q := by omega
          subst this
          exact hu
    exact this len0 (Nat.le_refl _)
  refine ⟨l, fun u hu => ?_, ?_⟩
  · obtain ⟨i, hi⟩ := List.mem_iff_getElem?.1 hu
    exact (hl2 i u hi).1
  · have hv : Value.slice (some a) len0 cap0 = .slice (some ⟨a.block, a.off, none⟩) (l.map el).length cap0 := by
      obtain ⟨b, o, s⟩ := a
      simp only at hspot
      subst hspot
      simp [hl1]
    rw [hv]
    have cell : ∀ (i j : Nat) (x : List PV) (y : PV), (l.map el)[i]? = some x → x[j]? = some y → ∃ v, w.cell? ⟨a.block, a.off + i * k + j, none⟩ = some v ∧ RepP w (Gd w (fun _ _ => 0) fun _ _ => none) y v := by
      intro i j x y hx hy
      rw [List.getElem?_map] at hx
      cases hu : l[i]? with
      | none => simp [hu] at hx
      | some u =>
        simp only [hu, Option.map_some, Option.some.injEq] at hx
        subst hx
        exact (hl2 i u hu).2.2 j y hy
    refine RepP.mk_row (by simpa [hl1] using hl) hm ⟨fun i x hx => ?_, fun hne => ?_, by simp [hl1]; omega, cell⟩
    · rw [List.getElem?_map] at hx
      cases hu : l[i]? with
      | none => simp [hu] at hx
      | some u =>
        simp only [hu, Option.map_some, Option.some.injEq] at hx
        subst hx
        exact (hl2 i u hu).2.1
    · refine ⟨?_, fun ⟨_, _, _, ho, _⟩ => by cases ho⟩
      cases l with
      | nil => exact absurd rfl hne
      | cons u r =>
        have hlen : (el u).length = k := (hl2 0 u rfl).2.1
        obtain ⟨v, hv, _⟩ := (hl2 0 u rfl).2.2 0 ((el u)[0]'(by omega)) (List.getElem?_eq_getElem (by omega))
        exact World.block_lt_of_cell? w ⟨a.block, _, none⟩ hv
theorem arg_slice {t e : TypeId} {k : Nat} {α : Type} {el : α → List PV} {wf : α → Prop} {v : Value} {d : DataW H} {ps : List MemPlace} {r : Reach} {b0 : Nat} (ht : P.underlying t = some (.slice e)) (hR : Reads P e k el wf) (hk : 0 < k)
    (hval : Value.okWide P w r b0 t v) (h : DataW.Trod enc P w 0 (fun _ => true) held t v d ps) :
    v = .slice none 0 0 ∨ ∃ l : List α, (∀ u ∈ l, wf u) ∧ RepP w (Gd w (fun _ _ => 0) fun _ _ => none) (.row k (l.map el)) v := by
  obtain ⟨fuel, hf⟩ := h
  obtain ⟨a0, len0, cap0, rfl⟩ := okWide_slice ht hval
  rcases Go.Deep.open_slice ht hf with ⟨hcs, _⟩ | ⟨a, len, cap, m, n, D, Pl, hcs, _, hl, hm, hmm, _, hel⟩
  · simp [Value.cells] at hcs
    obtain ⟨rfl, rfl, rfl⟩ := hcs
    exact .inl rfl
  · right
    simp [Value.cells] at hcs
    obtain ⟨rfl, rfl, rfl⟩ := hcs
    have hmm : m = cap0 := by simpa using hmm
    subst hmm
    exact rows_read hR hk hl hm hel
theorem reads_slice {P : Program} {t e : TypeId} {k : Nat} {α : Type} {el : α → List PV} {wf : α → Prop} (ht : P.underlying t = some (.slice e)) (hc : P.cellsOf t = 1) (hR : Reads P e k el wf) (hk : 0 < k) :
    Reads P t 1 (fun o : Option (List α) => [slP k el o]) fun o => ∀ u ∈ o.getD [], wf u := by
  refine ⟨hc, fun H enc w base held n cs y h => ?_⟩
  rcases Go.Deep.open_slice ht h with ⟨rfl, _⟩ | ⟨a, len, cap, m, n', D, Pl, rfl, _, hl, hm, hmm, _, hel⟩
  · refine ⟨none, by simp, rfl, fun j x hj => ?_⟩
    cases j with
    | zero => cases hj; exact ⟨_, rfl, .lit _ rfl⟩
    | succ j => simp at hj
  · have hmm : m = cap := by simpa using hmm
    subst hmm
    obtain ⟨l, h1, h2⟩ := rows_read hR hk hl hm hel
    refine ⟨some l, h1, rfl, fun j x hj => ?_⟩
    cases j with
    | zero => cases hj; exact ⟨_, rfl, h2⟩
    | succ j => simp at hj
end
end Go.Rd
namespace Go.Proofs.Ytfdaioinghfjpaa
open Go.Rd Go.RowKit
set_option maxRecDepth 20000
structure U where
  pos : Int
  len : Int
  count : Int
  old : Bool
  deriving DecidableEq
def encU (u : U) : List PV := [.lit (.int .i64 u.pos), .lit (.int .i64 u.len), .lit (.int .i64 u.count), .lit (.bool u.old)]
abbrev uA : Option (List U) → AV := slA 4 encU
abbrev bA : Option (List Bool) → AV := slA 1 encB
theorem eq41 (u v : U) : Rd.EqAt Try.prog 41 [.int .i64 u.pos, .int .i64 u.len, .int .i64 u.count, .bool u.old] [.int .i64 v.pos, .int .i64 v.len, .int .i64 v.count, .bool v.old] (decide (u = v)) := by
  have e : decide (u = v) = (u.pos == v.pos && (u.len == v.len && (u.count == v.count && (u.old == v.old && true)))) := by
    obtain ⟨a, b, c, d⟩ := u
    obtain ⟨a', b', c', d'⟩ := v
    simp only [U.mk.injEq, Bool.decide_and, Bool.and_true]
    rfl
  rw [e]
  refine eqAt_of Try.underlying41 (by kernel_rfl) (by kernel_rfl) fun w => ?_
  refine eqfs_cons (by rfl) (by go_simp; rfl) (by go_simp; rfl) (by go_simp) ?_
  refine eqfs_cons (by rfl) (by go_simp; rfl) (by go_simp; rfl) (by go_simp) ?_
  refine eqfs_cons (by rfl) (by go_simp; rfl) (by go_simp; rfl) (by go_simp) ?_
  refine eqfs_cons (by rfl) (by go_simp; rfl) (by go_simp; rfl) (by go_simp) ?_
  exact eqfs_nil
theorem drop_cons {α : Type} {l : List α} {k : Nat} {u : α} (h : l[k]? = some u) : l.drop k = u :: l.drop (k + 1) := by
  obtain ⟨h1, h2⟩ := List.getElem?_eq_some_iff.1 h
  rw [List.drop_eq_getElem_cons h1, h2]
def may1 (e : Int) : List U → Bool
  | [] => true
  | u :: r => if u.len < 1 ∨ u.len > 8 ∨ u.pos < e ∨ u.pos > 16 - u.len then false else if u.count < 0 ∨ u.count > 1000000 ∨ u.old = false ∧ u.count = 0 then false else may1 (u.pos + u.len) r
def may (o : Option (List U)) : Bool := may1 0 (o.getD [])
theorem may_AC (o : Option (List U)) : ACv Try.prog 25 [uA o] (fun v => v = Rd.bool (may o)) := by
  intro L S hL
  refine fn_St (n := 58) (rs := [.tmp 2]) hands_val RdT.ok RdT.mixed Try.func25 rfl (by kernel_rfl) rfl rfl rfl hL ?_
  intro hS
  cases o with
  | none =>
    show awp _ _ _ _ _ (St L 58 [(0, .a (.s (.pv (.lit (.slice none 0 0)))))] S [])
    repeat' (first
        | (with_reducible refine want_none ?_)
        | (with_reducible refine c_seq ?_)
        | (with_reducible refine c_region ?_)
        | (with_reducible refine c_block ?_)
        | (with_reducible refine aops_nil ?_)
        | (with_reducible refine k_normal ?_)
        | (with_reducible refine c_skip ?_)
        | (with_reducible refine c_exit ?_)
        | (with_reducible refine c_ret ?_)
        | (with_reducible refine k_ret ?_)
        | (with_reducible refine k_exit ?_)
        | (with_reducible refine kl_exit ?_)
        | (with_reducible refine kr_ret ?_)
        | (with_reducible refine kr_exit ?_)
        | (with_reducible refine kb_normal ?_)
        | (with_reducible refine kb_ret ?_)
        | (with_reducible refine kb_hit ?_)
        | ((with_reducible apply want_run); exact rfl; exact rfl)
        | ((with_reducible apply want_skip); exact rfl; exact rfl; exact rfl)
        | ((with_reducible apply want_out); exact rfl; exact rfl; exact rfl)
        | ((with_reducible apply want_forkF); exact rfl; exact rfl; exact rfl; (first | exact Bp.not Bp.dec | exact Bp.dec | exact Bp.not Bp.bool | exact Bp.bool); all_goals intro hc)
        | ((with_reducible apply want_forkT); exact rfl; exact rfl; exact rfl; (first | exact Bp.not Bp.dec | exact Bp.dec | exact Bp.not Bp.bool | exact Bp.bool); all_goals intro hc)
        | ((with_reducible apply st_alloc); exact rfl; exact rfl; exact rfl; exact rfl)
        | ((with_reducible apply st_loadpel); exact rfl; exact rfl; omega; exact rfl; (intro u hu; refine ⟨_, rfl, ?_⟩; try simp only [Int.toNat_natCast] at hu))
        | ((with_reducible apply st_load); exact rfl; exact rfl; exact rfl; exact rfl; exact rfl)
        | ((with_reducible apply st_store); exact rfl; exact rfl; exact rfl; exact rfl; exact rfl; exact rfl)
        | ((with_reducible apply st_idx); exact rfl; exact rfl; exact rfl; exact rfl; exact rfl; omega)
        | ((with_reducible apply st_len RdT.ok); exact rfl; exact rfl; exact rfl; intro hlen)
        | ((with_reducible apply st_lennil RdT.ok); exact rfl; exact rfl; exact rfl)
        | ((with_reducible apply st_add); exact rfl; exact rfl; exact rfl; omega)
        | ((with_reducible apply st_sub); exact rfl; exact rfl; exact rfl; omega)
        | ((with_reducible apply st_q RdT.ok); exact rfl; exact rfl)
        | ((with_reducible apply c_condT); exact rfl)
        | ((with_reducible apply c_condF); exact rfl)
        | ((with_reducible apply c_cond); exact rfl; (first | exact Bp.not Bp.dec | exact Bp.dec | exact Bp.not Bp.bool | exact Bp.bool); all_goals intro hc))
    refine c_loop0 ?_
    repeat' (first
        | (with_reducible refine want_none ?_)
        | (with_reducible refine c_seq ?_)
        | (with_reducible refine c_region ?_)
        | (with_reducible refine c_block ?_)
        | (with_reducible refine aops_nil ?_)
        | (with_reducible refine k_normal ?_)
        | (with_reducible refine c_skip ?_)
        | (with_reducible refine c_exit ?_)
        | (with_reducible refine c_ret ?_)
        | (with_reducible refine k_ret ?_)
        | (with_reducible refine k_exit ?_)
        | (with_reducible refine kl_exit ?_)
        | (with_reducible refine kr_ret ?_)
        | (with_reducible refine kr_exit ?_)
        | (with_reducible refine kb_normal ?_)
        | (with_reducible refine kb_ret ?_)
        | (with_reducible refine kb_hit ?_)
        | ((with_reducible apply want_run); exact rfl; exact rfl)
        | ((with_reducible apply want_skip); exact rfl; exact rfl; exact rfl)
        | ((with_reducible apply want_out); exact rfl; exact rfl; exact rfl)
        | ((with_reducible apply want_forkF); exact rfl; exact rfl; exact rfl; (first | exact Bp.not Bp.dec | exact Bp.dec | exact Bp.not Bp.bool | exact Bp.bool); all_goals intro hc)
        | ((with_reducible apply want_forkT); exact rfl; exact rfl; exact rfl; (first | exact Bp.not Bp.dec | exact Bp.dec | exact Bp.not Bp.bool | exact Bp.bool); all_goals intro hc)
        | ((with_reducible apply st_alloc); exact rfl; exact rfl; exact rfl; exact rfl)
        | ((with_reducible apply st_loadpel); exact rfl; exact rfl; omega; exact rfl; (intro u hu; refine ⟨_, rfl, ?_⟩; try simp only [Int.toNat_natCast] at hu))
        | ((with_reducible apply st_load); exact rfl; exact rfl; exact rfl; exact rfl; exact rfl)
        | ((with_reducible apply st_store); exact rfl; exact rfl; exact rfl; exact rfl; exact rfl; exact rfl)
        | ((with_reducible apply st_idx); exact rfl; exact rfl; exact rfl; exact rfl; exact rfl; omega)
        | ((with_reducible apply st_len RdT.ok); exact rfl; exact rfl; exact rfl; intro hlen)
        | ((with_reducible apply st_lennil RdT.ok); exact rfl; exact rfl; exact rfl)
        | ((with_reducible apply st_add); exact rfl; exact rfl; exact rfl; omega)
        | ((with_reducible apply st_sub); exact rfl; exact rfl; exact rfl; omega)
        | ((with_reducible apply st_q RdT.ok); exact rfl; exact rfl)
        | ((with_reducible apply c_condT); exact rfl)
        | ((with_reducible apply c_condF); exact rfl)
        | ((with_reducible apply c_cond); exact rfl; (first | exact Bp.not Bp.dec | exact Bp.dec | exact Bp.not Bp.bool | exact Bp.bool); all_goals intro hc))
    ((with_reducible apply r_one); exact rfl; exact .tmp rfl .nil; exact .s (.pv _); exact hS; refine ⟨rfl, _, rfl, ?_⟩)
    rfl
  | some l =>
    show awp _ _ _ _ _ (St L 58 [(0, .a (.s (.pv (.row 4 (l.map encU)))))] S [])
    show awp _ _ _ _ (retQ _ _ (exitVal fun r S' => S' = S ∧ ∃ v, r = .val v ∧ v = Rd.bool (may1 0 l))) _
    repeat' (first
        | (with_reducible refine want_none ?_)
        | (with_reducible refine c_seq ?_)
        | (with_reducible refine c_region ?_)
        | (with_reducible refine c_block ?_)
        | (with_reducible refine aops_nil ?_)
        | (with_reducible refine k_normal ?_)
        | (with_reducible refine c_skip ?_)
        | (with_reducible refine c_exit ?_)
        | (with_reducible refine c_ret ?_)
        | (with_reducible refine k_ret ?_)
        | (with_reducible refine k_exit ?_)
        | (with_reducible refine kl_exit ?_)
        | (with_reducible refine kr_ret ?_)
        | (with_reducible refine kr_exit ?_)
        | (with_reducible refine kb_normal ?_)
        | (with_reducible refine kb_ret ?_)
        | (with_reducible refine kb_hit ?_)
        | ((with_reducible apply want_run); exact rfl; exact rfl)
        | ((with_reducible apply want_skip); exact rfl; exact rfl; exact rfl)
        | ((with_reducible apply want_out); exact rfl; exact rfl; exact rfl)
        | ((with_reducible apply want_forkF); exact rfl; exact rfl; exact rfl; (first | exact Bp.not Bp.dec | exact Bp.dec | exact Bp.not Bp.bool | exact Bp.bool); all_goals intro hc)
        | ((with_reducible apply want_forkT); exact rfl; exact rfl; exact rfl; (first | exact Bp.not Bp.dec | exact Bp.dec | exact Bp.not Bp.bool | exact Bp.bool); all_goals intro hc)
        | ((with_reducible apply st_alloc); exact rfl; exact rfl; exact rfl; exact rfl)
        | ((with_reducible apply st_loadpel); exact rfl; exact rfl; omega; exact rfl; (intro u hu; refine ⟨_, rfl, ?_⟩; try simp only [Int.toNat_natCast] at hu))
        | ((with_reducible apply st_load); exact rfl; exact rfl; exact rfl; exact rfl; exact rfl)
        | ((with_reducible apply st_store); exact rfl; exact rfl; exact rfl; exact rfl; exact rfl; exact rfl)
        | ((with_reducible apply st_idx); exact rfl; exact rfl; exact rfl; exact rfl; exact rfl; omega)
        | ((with_reducible apply st_len RdT.ok); exact rfl; exact rfl; exact rfl; intro hlen)
        | ((with_reducible apply st_lennil RdT.ok); exact rfl; exact rfl; exact rfl)
        | ((with_reducible apply st_add); exact rfl; exact rfl; exact rfl; omega)
        | ((with_reducible apply st_sub); exact rfl; exact rfl; exact rfl; omega)
        | ((with_reducible apply st_q RdT.ok); exact rfl; exact rfl)
        | ((with_reducible apply c_condT); exact rfl)
        | ((with_reducible apply c_condF); exact rfl)
        | ((with_reducible apply c_cond); exact rfl; (first | exact Bp.not Bp.dec | exact Bp.dec | exact Bp.not Bp.bool | exact Bp.bool); all_goals intro hc))
    refine c_loop (β := Int × Nat) (fun b => b.2 ≤ l.length ∧ 0 ≤ b.1 ∧ may1 0 l = may1 b.1 (l.drop b.2)) (fun b => l.length - b.2) (fun b => [(3, int b.1), (6, row 4 (l.map encU)), (7, int l.length), (8, int b.2)]) (fun _ => []) (0, 0) ⟨Nat.zero_le _, Int.le_refl _, rfl⟩ ⟨rfl, rfl, rfl, rfl, trivial⟩ trivial rfl rfl ?_
    rintro ⟨e, k⟩ ⟨hk, he, hm⟩
    dsimp only at hk he hm ⊢
    repeat' (first
        | (with_reducible refine want_none ?_)
        | (with_reducible refine c_seq ?_)
        | (with_reducible refine c_region ?_)
        | (with_reducible refine c_block ?_)
        | (with_reducible refine aops_nil ?_)
        | (with_reducible refine k_normal ?_)
        | (with_reducible refine c_skip ?_)
        | (with_reducible refine c_exit ?_)
        | (with_reducible refine c_ret ?_)
        | (with_reducible refine k_ret ?_)
        | (with_reducible refine k_exit ?_)
        | (with_reducible refine kl_exit ?_)
        | (with_reducible refine kr_ret ?_)
        | (with_reducible refine kr_exit ?_)
        | (with_reducible refine kb_normal ?_)
        | (with_reducible refine kb_ret ?_)
        | (with_reducible refine kb_hit ?_)
        | ((with_reducible apply want_run); exact rfl; exact rfl)
        | ((with_reducible apply want_skip); exact rfl; exact rfl; exact rfl)
        | ((with_reducible apply want_out); exact rfl; exact rfl; exact rfl)
        | ((with_reducible apply want_forkF); exact rfl; exact rfl; exact rfl; (first | exact Bp.not Bp.dec | exact Bp.dec | exact Bp.not Bp.bool | exact Bp.bool); all_goals intro hc)
        | ((with_reducible apply want_forkT); exact rfl; exact rfl; exact rfl; (first | exact Bp.not Bp.dec | exact Bp.dec | exact Bp.not Bp.bool | exact Bp.bool); all_goals intro hc)
        | ((with_reducible apply st_alloc); exact rfl; exact rfl; exact rfl; exact rfl)
        | ((with_reducible apply st_loadpel); exact rfl; exact rfl; omega; exact rfl; (intro u hu; refine ⟨_, rfl, ?_⟩; try simp only [Int.toNat_natCast] at hu))
        | ((with_reducible apply st_load); exact rfl; exact rfl; exact rfl; exact rfl; exact rfl)
        | ((with_reducible apply st_store); exact rfl; exact rfl; exact rfl; exact rfl; exact rfl; exact rfl)
        | ((with_reducible apply st_idx); exact rfl; exact rfl; exact rfl; exact rfl; exact rfl; omega)
        | ((with_reducible apply st_len RdT.ok); exact rfl; exact rfl; exact rfl; intro hlen)
        | ((with_reducible apply st_lennil RdT.ok); exact rfl; exact rfl; exact rfl)
        | ((with_reducible apply st_add); exact rfl; exact rfl; exact rfl; omega)
        | ((with_reducible apply st_sub); exact rfl; exact rfl; exact rfl; omega)
        | ((with_reducible apply st_q RdT.ok); exact rfl; exact rfl)
        | ((with_reducible apply c_condT); exact rfl)
        | ((with_reducible apply c_condF); exact rfl)
        | ((with_reducible apply c_cond); exact rfl; (first | exact Bp.not Bp.dec | exact Bp.dec | exact Bp.not Bp.bool | exact Bp.bool); all_goals intro hc))
    all_goals first
      | ((with_reducible apply r_one); exact rfl; exact .tmp rfl .nil; exact .s (.pv _); exact hS; refine ⟨rfl, _, rfl, ?_⟩)
      | ((with_reducible refine k_back (u.pos + u.len, k + 1) ?_ ?_ ?_ ?_ ?_ ?_); refine ⟨by dsimp only; omega, by dsimp only; omega, ?_⟩; all_goals first | exact rfl | exact trivial | (dsimp only; omega) | exact ⟨rfl, rfl, rfl, rfl, trivial⟩ | skip)
    all_goals first
      | (rw [hm, drop_cons hu, may1, if_pos (by omega)]; done)
      | (rw [hm, drop_cons hu, may1, if_neg (by omega), if_pos (by simp_all)]; done)
      | (rw [hm, drop_cons hu, may1, if_neg (by omega), if_neg (by simp_all)]; done)
      | (rw [hm, List.drop_of_length_le (by omega)]; rfl)
end Go.Proofs.Ytfdaioinghfjpaa
namespace Go.Rd
open Go.RowKit Go.Proofs Go.ChangeShapes Go.WideShapes
end Go.Rd
namespace Go.Proofs.Ytfdaioinghfjpaa
open Go.Rd Go.RowKit Go.ChangeShapes Go.WideShapes Go.ChangeAt
theorem arg_sliceO {H : Type} {enc : TypeId × Value → H} {P : Program} {w : World} {held : Bool} {t e : TypeId} {k : Nat} {α : Type} {el : α → List PV} {wf : α → Prop} {v : Value} {d : DataW H} {ps : List MemPlace} {r : Reach} {b0 : Nat} (ht : P.underlying t = some (.slice e)) (hR : Reads P e k el wf) (hk : 0 < k)
    (hval : Value.okWide P w r b0 t v) (h : DataW.Trod enc P w 0 (fun _ => true) held t v d ps) :
    ∃ o : Option (List α), (∀ u ∈ o.getD [], wf u) ∧ RepA w (Gd w (fun _ _ => 0) fun _ _ => none) (fun _ _ => 0) (fun _ _ => none) (slA k el o) v := by
  rcases arg_slice ht hR hk hval h with rfl | ⟨l, hl, hr⟩
  · exact ⟨none, by simp, RepP.lit _ rfl⟩
  · exact ⟨some l, hl, hr⟩
def U.wf (u : U) : Prop := (Lit.int .i64 u.pos).wf = true ∧ (Lit.int .i64 u.len).wf = true ∧ (Lit.int .i64 u.count).wf = true
theorem readsU : Reads Try.prog 41 4 encU U.wf := by
  refine ⟨by kernel_rfl, fun H enc w base held n cs y h => ?_⟩
  have hs : structOf Try.prog 41 = some [(0, 3), (1, 3), (2, 3), (3, 4)] := by kernel_rfl
  obtain ⟨n0, h0, w0⟩ := field_int hs h (i := 0) rfl (k := .i64) (by kernel_rfl) (by kernel_rfl)
  obtain ⟨n1, h1, w1⟩ := field_int hs h (i := 1) rfl (k := .i64) (by kernel_rfl) (by kernel_rfl)
  obtain ⟨n2, h2, w2⟩ := field_int hs h (i := 2) rfl (k := .i64) (by kernel_rfl) (by kernel_rfl)
  obtain ⟨n3, h3⟩ := field_bool hs h (i := 3) rfl (by kernel_rfl) (by kernel_rfl)
  refine ⟨⟨n0, n1, n2, n3⟩, ⟨w0, w1, w2⟩, rfl, fun j x hj => ?_⟩
  match j, hj with
  | 0, hj => cases hj; exact ⟨_, h0, .lit _ rfl⟩
  | 1, hj => cases hj; exact ⟨_, h1, .lit _ rfl⟩
  | 2, hj => cases hj; exact ⟨_, h2, .lit _ rfl⟩
  | 3, hj => cases hj; exact ⟨_, h3, .lit _ rfl⟩
structure D2 where
  what : Int
  num : Int
end Go.Proofs.Ytfdaioinghfjpaa
namespace Go.Proofs.Ytfdaioinghfjpaa
open Go.Rd Go.RowKit
set_option maxRecDepth 20000
section
variable {P : Program} {T : TypeId → Option TI} {L n : Nat} {tm tm' : List (Nat × TV)} {S : Store} {own own' : List (Nat × AObj)}
variable {ops rest : List Oper} {Q : ASt → Prop} {d : Tmp} {ty : TypeId} {pos : String} {af : Array Edge} {g : Option (Nat × Bool)}
theorem st_callc {fop : Operand} {xs : List Operand} {ts : Array TypeId} {f : FuncId} {caps : List (Nat × Nat)} {avs : List AV} {V : TV → Prop} (ho : alook own d = none) (hf : evF tm fop = some (.a (.s (.clo f caps)))) (hx : argsF tm xs = some avs)
    (hd : Nat.blt d n = true) (hA : AC P (L + 1) f (avs ++ caps.map fun p => .s (.pb p.1 p.2 0)) (mkO S L own) fun r S' => S' = mkO S L own ∧ ∃ v, r = .val v ∧ V v) (hk : ∀ v, V v → aops P T ops rest Q (St L n ((d, v) :: tm) S own)) :
    aop1 P T ops rest Q ⟨some d, .call ⟨.value fop, xs.toArray, ts⟩, ty, pos, af, g⟩ (St L n tm S own) := by
  refine st_call ho hf hx hd hA ?_
  rintro r S' ⟨rfl, v, rfl, hv⟩
  exact hk v hv
end
def idx1 (p : U → Bool) (k : Nat) : List U → Int
  | [] => -1
  | u :: r => if p u = true then k else idx1 p (k + 1) r
abbrev uV (u : U) : AV := .agg ((encU u).map .pv)
def Test (f : FuncId) (l b : Nat) (o : AObj) (p : U → Bool) : Prop :=
  ∀ (L : Nat) (S : Store) (u : U), l < L → S l b = some o → AC Try.prog L f [uV u, .s (.pb l b 0)] S fun r S' => S' = S ∧ ∃ v, r = .val v ∧ v = Rd.bool (p u)
theorem indexFunc_AC {f : FuncId} {l0 b0 : Nat} {ob : AObj} {p : U → Bool} (hp : Test f l0 b0 ob p) (o : Option (List U)) (L : Nat) (S : Store) (hl : l0 < L) (hob : S l0 b0 = some ob) :
    AC Try.prog L 75 [uA o, .s (.clo f [(l0, b0)])] S fun r S' => S' = S ∧ ∃ v, r = .val v ∧ v = Rd.int (idx1 p 0 (o.getD [])) := by
  refine fn_St (n := 19) (rs := [.tmp 4]) hands_val RdT.ok RdT.mixed Try.func75 rfl (by kernel_rfl) rfl rfl rfl (by omega) ?_
  intro hS
  cases o with
  | none =>
    show awp _ _ _ _ _ (St L 19 [(0, .a (.s (.pv (.lit (.slice none 0 0))))), (1, .a (.s (.clo f [(l0, b0)])))] S [])
    repeat' (first
        | (with_reducible refine want_none ?_)
        | (with_reducible refine c_seq ?_)
        | (with_reducible refine c_region ?_)
        | (with_reducible refine c_block ?_)
        | (with_reducible refine aops_nil ?_)
        | (with_reducible refine k_normal ?_)
        | (with_reducible refine c_skip ?_)
        | (with_reducible refine c_exit ?_)
        | (with_reducible refine c_ret ?_)
        | (with_reducible refine k_ret ?_)
        | (with_reducible refine k_exit ?_)
        | (with_reducible refine kl_exit ?_)
        | (with_reducible refine kr_ret ?_)
        | (with_reducible refine kr_exit ?_)
        | (with_reducible refine kb_normal ?_)
        | (with_reducible refine kb_ret ?_)
        | (with_reducible refine kb_hit ?_)
        | ((with_reducible apply st_loadpel); exact rfl; exact rfl; omega; exact rfl; (intro u hu; refine ⟨_, rfl, ?_⟩; try simp only [Int.toNat_natCast] at hu))
        | ((with_reducible apply st_idx); exact rfl; exact rfl; exact rfl; exact rfl; exact rfl; omega)
        | ((with_reducible apply st_len RdT.ok); exact rfl; exact rfl; exact rfl; intro hlen)
        | ((with_reducible apply st_lennil RdT.ok); exact rfl; exact rfl; exact rfl)
        | ((with_reducible apply st_add); exact rfl; exact rfl; exact rfl; omega)
        | ((with_reducible apply st_q RdT.ok); exact rfl; exact rfl)
        | ((with_reducible apply c_condF); exact rfl)
        | ((with_reducible apply c_cond); exact rfl; (first | exact Bp.not Bp.dec | exact Bp.dec | exact Bp.not Bp.bool | exact Bp.bool); all_goals intro hc))
    refine c_loop0 ?_
    repeat' (first
        | (with_reducible refine want_none ?_)
        | (with_reducible refine c_seq ?_)
        | (with_reducible refine c_region ?_)
        | (with_reducible refine c_block ?_)
        | (with_reducible refine aops_nil ?_)
        | (with_reducible refine k_normal ?_)
        | (with_reducible refine c_skip ?_)
        | (with_reducible refine c_exit ?_)
        | (with_reducible refine c_ret ?_)
        | (with_reducible refine k_ret ?_)
        | (with_reducible refine k_exit ?_)
        | (with_reducible refine kl_exit ?_)
        | (with_reducible refine kr_ret ?_)
        | (with_reducible refine kr_exit ?_)
        | (with_reducible refine kb_normal ?_)
        | (with_reducible refine kb_ret ?_)
        | (with_reducible refine kb_hit ?_)
        | ((with_reducible apply st_loadpel); exact rfl; exact rfl; omega; exact rfl; (intro u hu; refine ⟨_, rfl, ?_⟩; try simp only [Int.toNat_natCast] at hu))
        | ((with_reducible apply st_idx); exact rfl; exact rfl; exact rfl; exact rfl; exact rfl; omega)
        | ((with_reducible apply st_len RdT.ok); exact rfl; exact rfl; exact rfl; intro hlen)
        | ((with_reducible apply st_lennil RdT.ok); exact rfl; exact rfl; exact rfl)
        | ((with_reducible apply st_add); exact rfl; exact rfl; exact rfl; omega)
        | ((with_reducible apply st_q RdT.ok); exact rfl; exact rfl)
        | ((with_reducible apply c_condF); exact rfl)
        | ((with_reducible apply c_cond); exact rfl; (first | exact Bp.not Bp.dec | exact Bp.dec | exact Bp.not Bp.bool | exact Bp.bool); all_goals intro hc))
    ((with_reducible apply r_one); exact rfl; exact .tmp rfl .nil; exact .s (.pv _); exact hS; refine ⟨rfl, _, rfl, ?_⟩)
    rfl
  | some l =>
    show awp _ _ _ _ _ (St L 19 [(0, .a (.s (.pv (.row 4 (l.map encU))))), (1, .a (.s (.clo f [(l0, b0)])))] S [])
    show awp _ _ _ _ (retQ _ _ (exitVal fun r S' => S' = S ∧ ∃ v, r = .val v ∧ v = Rd.int (idx1 p 0 l))) _
    repeat' (first
        | (with_reducible refine want_none ?_)
        | (with_reducible refine c_seq ?_)
        | (with_reducible refine c_region ?_)
        | (with_reducible refine c_block ?_)
        | (with_reducible refine aops_nil ?_)
        | (with_reducible refine k_normal ?_)
        | (with_reducible refine c_skip ?_)
        | (with_reducible refine c_exit ?_)
        | (with_reducible refine c_ret ?_)
        | (with_reducible refine k_ret ?_)
        | (with_reducible refine k_exit ?_)
        | (with_reducible refine kl_exit ?_)
        | (with_reducible refine kr_ret ?_)
        | (with_reducible refine kr_exit ?_)
        | (with_reducible refine kb_normal ?_)
        | (with_reducible refine kb_ret ?_)
        | (with_reducible refine kb_hit ?_)
        | ((with_reducible apply st_loadpel); exact rfl; exact rfl; omega; exact rfl; (intro u hu; refine ⟨_, rfl, ?_⟩; try simp only [Int.toNat_natCast] at hu))
        | ((with_reducible apply st_idx); exact rfl; exact rfl; exact rfl; exact rfl; exact rfl; omega)
        | ((with_reducible apply st_len RdT.ok); exact rfl; exact rfl; exact rfl; intro hlen)
        | ((with_reducible apply st_lennil RdT.ok); exact rfl; exact rfl; exact rfl)
        | ((with_reducible apply st_add); exact rfl; exact rfl; exact rfl; omega)
        | ((with_reducible apply st_q RdT.ok); exact rfl; exact rfl)
        | ((with_reducible apply c_condF); exact rfl)
        | ((with_reducible apply c_cond); exact rfl; (first | exact Bp.not Bp.dec | exact Bp.dec | exact Bp.not Bp.bool | exact Bp.bool); all_goals intro hc))
    refine c_loopP (β := Nat) (fun k => k ≤ l.length ∧ idx1 p 0 l = idx1 p k (l.drop k)) (fun k => l.length - k) (fun k => [(0, row 4 (l.map encU)), (1, .a (.s (.clo f [(l0, b0)]))), (6, row 4 (l.map encU)), (7, int l.length), (8, int k)]) (fun _ => []) 0 ⟨Nat.zero_le _, rfl⟩ ⟨rfl, rfl, rfl, rfl, rfl, trivial⟩ trivial (by (repeat' (first
                                                                                                                                                                                                                                                                                                                                         | exact trivial
                                                                                                                                                                                                                                                                                                                                         | exact Or.inr rfl
                                                                                                                                                                                                                                                                                                                                         | (refine Or.inl ?_; omega)
                                                                                                                                                                                                                                                                                                                                         | refine And.intro ?_ ?_))) trivial ?_
    rintro k ⟨hk, hm⟩
    repeat' (first
        | (with_reducible refine want_none ?_)
        | (with_reducible refine c_seq ?_)
        | (with_reducible refine c_region ?_)
        | (with_reducible refine c_block ?_)
        | (with_reducible refine aops_nil ?_)
        | (with_reducible refine k_normal ?_)
        | (with_reducible refine c_skip ?_)
        | (with_reducible refine c_exit ?_)
        | (with_reducible refine c_ret ?_)
        | (with_reducible refine k_ret ?_)
        | (with_reducible refine k_exit ?_)
        | (with_reducible refine kl_exit ?_)
        | (with_reducible refine kr_ret ?_)
        | (with_reducible refine kr_exit ?_)
        | (with_reducible refine kb_normal ?_)
        | (with_reducible refine kb_ret ?_)
        | (with_reducible refine kb_hit ?_)
        | ((with_reducible apply st_callc); exact rfl; exact rfl; exact rfl; exact rfl; exact hp _ _ u (by omega) ((mkO_low _ _ _ hl).trans hob); (rintro v rfl))
        | ((with_reducible apply st_loadpel); exact rfl; exact rfl; omega; exact rfl; (intro u hu; refine ⟨_, rfl, ?_⟩; try simp only [Int.toNat_natCast] at hu))
        | ((with_reducible apply st_idx); exact rfl; exact rfl; exact rfl; exact rfl; exact rfl; omega)
        | ((with_reducible apply st_len RdT.ok); exact rfl; exact rfl; exact rfl; intro hlen)
        | ((with_reducible apply st_lennil RdT.ok); exact rfl; exact rfl; exact rfl)
        | ((with_reducible apply st_add); exact rfl; exact rfl; exact rfl; omega)
        | ((with_reducible apply st_q RdT.ok); exact rfl; exact rfl)
        | ((with_reducible apply c_condF); exact rfl)
        | ((with_reducible apply c_cond); exact rfl; (first | exact Bp.not Bp.dec | exact Bp.dec | exact Bp.not Bp.bool | exact Bp.bool); all_goals intro hc))
    · ((with_reducible apply r_one); exact rfl; exact .tmp rfl .nil; exact .s (.pv _); exact hS; refine ⟨rfl, _, rfl, ?_⟩)
      rw [hm, drop_cons hu, idx1, if_pos (by assumption)]
    · (with_reducible refine k_backP (k + 1) ?_ ?_ ?_ ?_ ?_ ?_)
      · refine ⟨by omega, ?_⟩
        rw [hm, drop_cons hu, idx1, if_neg (by assumption)]
      · omega
      · exact ⟨rfl, rfl, rfl, rfl, rfl, trivial⟩
      · trivial
      · exact (by (repeat' (first
                       | exact trivial
                       | exact Or.inr rfl
                       | (refine Or.inl ?_; omega)
                       | refine And.intro ?_ ?_)))
      · trivial
    · ((with_reducible apply r_one); exact rfl; exact .tmp rfl .nil; exact .s (.pv _); exact hS; refine ⟨rfl, _, rfl, ?_⟩)
      rw [hm, List.drop_of_length_le (by omega)]; rfl
theorem find1_AC (l b : Nat) (at' : Int) : Test 112 l b (.box 3 [.pv (.lit (.int .i64 at'))]) fun u => decide (u.pos = at') := by
  intro L S u hl hob
  refine fn_St (n := 8) (rs := [.tmp 3]) hands_val RdT.ok RdT.mixed Try.func112 rfl (by kernel_rfl) rfl rfl rfl (by omega) ?_
  intro hS
  show awp _ _ _ _ _ (St L 8 [(0, .a (uV u)), (1, .a (.s (.pb l b 0)))] S [])
  repeat' (first
      | (with_reducible refine want_none ?_)
      | (with_reducible refine c_seq ?_)
      | (with_reducible refine c_region ?_)
      | (with_reducible refine aops_nil ?_)
      | (with_reducible refine k_normal ?_)
      | (with_reducible refine c_ret ?_)
      | ((with_reducible apply st_loadlow); exact rfl; exact hl; exact hob; exact rfl; exact rfl; exact rfl)
      | ((with_reducible apply st_box); exact rfl; exact rfl; exact rfl; exact rfl)
      | ((with_reducible apply st_load); exact rfl; exact rfl; exact rfl; exact rfl; exact rfl)
      | ((with_reducible apply st_q RdT.ok); exact rfl; exact rfl))
  ((with_reducible apply r_one); exact rfl; exact .tmp rfl .nil; exact .s (.pv _); exact hS; refine ⟨rfl, _, rfl, ?_⟩)
  rfl
theorem take1_AC (l b : Nat) (at' : Int) : Test 76 l b (.box 3 [.pv (.lit (.int .i64 at'))]) fun u => decide (at' < u.pos) := by
  intro L S u hl hob
  refine fn_St (n := 8) (rs := [.tmp 3]) hands_val RdT.ok RdT.mixed Try.func76 rfl (by kernel_rfl) rfl rfl rfl (by omega) ?_
  intro hS
  show awp _ _ _ _ _ (St L 8 [(0, .a (uV u)), (1, .a (.s (.pb l b 0)))] S [])
  repeat' (first
      | (with_reducible refine want_none ?_)
      | (with_reducible refine c_seq ?_)
      | (with_reducible refine c_region ?_)
      | (with_reducible refine aops_nil ?_)
      | (with_reducible refine k_normal ?_)
      | (with_reducible refine c_ret ?_)
      | ((with_reducible apply st_loadlow); exact rfl; exact hl; exact hob; exact rfl; exact rfl; exact rfl)
      | ((with_reducible apply st_box); exact rfl; exact rfl; exact rfl; exact rfl)
      | ((with_reducible apply st_load); exact rfl; exact rfl; exact rfl; exact rfl; exact rfl)
      | ((with_reducible apply st_q RdT.ok); exact rfl; exact rfl))
  ((with_reducible apply r_one); exact rfl; exact .tmp rfl .nil; exact .s (.pv _); exact hS; refine ⟨rfl, _, rfl, ?_⟩)
  rfl
def find (o : Option (List U)) (at' : Int) : Int := idx1 (fun u => decide (u.pos = at')) 0 (o.getD [])
theorem find_AC (o : Option (List U)) (at' : Int) : ACv Try.prog 82 [uA o, .s (.pv (.lit (.int .i64 at')))] fun v => v = Rd.int (find o at') := by
  intro L S hL
  refine fn_St (n := 8) (rs := [.tmp 4]) hands_val RdT.ok RdT.mixed Try.func82 rfl (by kernel_rfl) rfl rfl rfl (by omega) ?_
  intro hS
  have hc : ∀ own, alook own 3 = some (.box 3 [.pv (.lit (.int .i64 at'))]) → AC Try.prog (L + 1) 75 [uA o, .s (.clo 112 [(L, 3)])] (mkO S L own) fun r S' => S' = mkO S L own ∧ ∃ v, r = .val v ∧ v = Rd.int (find o at') := by
    intro own ho
    exact indexFunc_AC (find1_AC L 3 at') o (L + 1) _ (by omega) ((mkO_own S L own 3).trans ho)
  cases o with
  | none =>
    show awp _ _ _ _ _ (St L 8 [(0, .a (.s (.pv (.lit (.slice none 0 0))))), (1, int at')] S [])
    repeat' (first
        | (with_reducible refine want_none ?_)
        | (with_reducible refine c_seq ?_)
        | (with_reducible refine c_region ?_)
        | (with_reducible refine aops_nil ?_)
        | (with_reducible refine k_normal ?_)
        | (with_reducible refine c_ret ?_)
        | ((with_reducible apply st_callc); exact rfl; exact rfl; exact rfl; exact rfl; exact hc _ rfl; (rintro v rfl))
        | ((with_reducible apply st_box); exact rfl; exact rfl; exact rfl; exact rfl)
        | ((with_reducible apply st_q RdT.ok); exact rfl; exact rfl))
    ((with_reducible apply r_one); exact rfl; exact .tmp rfl .nil; exact .s (.pv _); exact hS; refine ⟨rfl, _, rfl, ?_⟩)
    rfl
  | some l =>
    show awp _ _ _ _ _ (St L 8 [(0, .a (.s (.pv (.row 4 (l.map encU))))), (1, int at')] S [])
    repeat' (first
        | (with_reducible refine want_none ?_)
        | (with_reducible refine c_seq ?_)
        | (with_reducible refine c_region ?_)
        | (with_reducible refine aops_nil ?_)
        | (with_reducible refine k_normal ?_)
        | (with_reducible refine c_ret ?_)
        | ((with_reducible apply st_callc); exact rfl; exact rfl; exact rfl; exact rfl; exact hc _ rfl; (rintro v rfl))
        | ((with_reducible apply st_box); exact rfl; exact rfl; exact rfl; exact rfl)
        | ((with_reducible apply st_q RdT.ok); exact rfl; exact rfl))
    ((with_reducible apply r_one); exact rfl; exact .tmp rfl .nil; exact .s (.pv _); exact hS; refine ⟨rfl, _, rfl, ?_⟩)
    rfl
end Go.Proofs.Ytfdaioinghfjpaa
namespace Go.Proofs.Ytfdaioinghfjpaa
open Go.Rd Go.RowKit
set_option maxRecDepth 20000
def countOf (at' : Int) : List U → Int
  | [] => 0
  | u :: r => if u.pos = at' then u.count else countOf at' r
def count (o : Option (List U)) (at' : Int) : Int := countOf at' (o.getD [])
theorem idx1_spec (p : U → Bool) : ∀ (l : List U) (k : Nat), (idx1 p k l = -1 ∧ ∀ u ∈ l, p u = false) ∨ ∃ (j : Nat) (u : U), idx1 p k l = ((k + j : Nat) : Int) ∧ l[j]? = some u ∧ p u = true ∧ ∀ (i : Nat) (x : U), i < j → l[i]? = some x → p x = false
  | [], k => .inl ⟨rfl, by simp⟩
  | u :: r, k => by
    unfold idx1
    by_cases h : p u = true
    · rw [if_pos h]
      exact .inr ⟨0, u, by simp, rfl, h, fun i x hi => by omega⟩
    · rw [if_neg h]
      rcases idx1_spec p r (k + 1) with ⟨h1, h2⟩ | ⟨j, v, h1, h2, h3, h4⟩
      · left
        refine ⟨h1, fun x hx => ?_⟩
        rcases List.mem_cons.1 hx with rfl | hx
        · simpa using h
        · exact h2 x hx
      · right
        refine ⟨j + 1, v, by rw [h1]; congr 1; omega, by simpa using h2, h3, fun i x hi hx => ?_⟩
        cases i with
        | zero => simp at hx; subst hx; simpa using h
        | succ i => exact h4 i x (by omega) (by simpa using hx)
theorem find_spec (l : List U) (at' : Int) : (find (some l) at' = -1 ∧ countOf at' l = 0 ∧ ∀ u ∈ l, u.pos ≠ at') ∨ ∃ (j : Nat) (u : U), find (some l) at' = (j : Int) ∧ l[j]? = some u ∧ u.pos = at' ∧ countOf at' l = u.count ∧ ∀ (i : Nat) (x : U), i < j → l[i]? = some x → x.pos ≠ at' := by
  have hc : ∀ (l : List U), (∀ u ∈ l, u.pos ≠ at') → countOf at' l = 0 := by
    intro l
    induction l with
    | nil => intro _; rfl
    | cons u r ih =>
      intro h
      rw [countOf, if_neg (h u (by simp))]
      exact ih fun x hx => h x (by simp [hx])
  have hc2 : ∀ (l : List U) (j : Nat) (u : U), l[j]? = some u → u.pos = at' → (∀ (i : Nat) (x : U), i < j → l[i]? = some x → x.pos ≠ at') → countOf at' l = u.count := by
    intro l
    induction l with
    | nil => intro j u h; simp at h
    | cons v r ih =>
      intro j u h hu hb
      cases j with
      | zero => simp at h; subst h; rw [countOf, if_pos hu]
      | succ j =>
        rw [countOf, if_neg (hb 0 v (by omega) rfl)]
        exact ih j u (by simpa using h) hu fun i x hi hx => hb (i + 1) x (by omega) (by simpa using hx)
  rcases idx1_spec (fun u => decide (u.pos = at')) l 0 with ⟨h1, h2⟩ | ⟨j, u, h1, h2, h3, h4⟩
  · refine .inl ⟨h1, ?_, fun u hu => by simpa using h2 u hu⟩
    exact hc l fun u hu => by simpa using h2 u hu
  · have h3' : u.pos = at' := by simpa using h3
    have h4' : ∀ (i : Nat) (x : U), i < j → l[i]? = some x → x.pos ≠ at' := fun i x hi hx => by simpa using h4 i x hi hx
    exact .inr ⟨j, u, by unfold find; rw [show (some l).getD [] = l from rfl, h1]; simp, h2, h3', hc2 l j u h2 h3' h4', h4'⟩
theorem clone_nil : ACv Try.prog 78 [uA none] fun v => v = nilS := by
  intro L S hL
  refine fn_St (n := 8) (rs := [.tmp 2]) hands_val RdT.ok RdT.mixed Try.func78 rfl (by kernel_rfl) rfl rfl rfl (by omega) ?_
  intro hS
  show awp _ _ _ _ _ (St L 8 [(0, .a (.s (.pv (.lit (.slice none 0 0)))))] S [])
  repeat' (first
      | (with_reducible refine want_none ?_)
      | (with_reducible refine c_seq ?_)
      | (with_reducible refine c_region ?_)
      | (with_reducible refine aops_nil ?_)
      | (with_reducible refine k_normal ?_)
      | (with_reducible refine c_ret ?_)
      | (with_reducible refine k_ret ?_)
      | ((with_reducible apply st_q RdT.ok); exact rfl; exact rfl)
      | ((with_reducible apply c_condT); exact rfl))
  ((with_reducible apply r_one); exact rfl; exact .tmp rfl .nil; exact .s (.pv _); exact hS; refine ⟨rfl, _, rfl, ?_⟩)
  rfl
theorem clone_row (l : List U) (hl : l.length * 32 ≤ 140737488355328) : ACo Try.prog 78 [uA (some l)] 41 4 fun es => es = l.map encU := by
  intro L S hL
  refine fn_St (n := 8) (rs := [.tmp 2]) hands_own RdT.ok RdT.mixed Try.func78 rfl (by kernel_rfl) rfl rfl rfl (by omega) ?_
  intro hS
  show awp _ _ _ _ _ (St L 8 [(0, .a (.s (.pv (.row 4 (l.map encU)))))] S [])
  repeat' (first
      | (with_reducible refine want_none ?_)
      | (with_reducible refine c_seq ?_)
      | (with_reducible refine c_region ?_)
      | (with_reducible refine aops_nil ?_)
      | (with_reducible refine k_normal ?_)
      | (with_reducible refine c_skip ?_)
      | (with_reducible refine c_ret ?_)
      | ((with_reducible apply st_buildslice); exact rfl; exact rfl; exact rfl; exact rfl; exact rfl; exact rfl; exact rfl; exact rfl)
      | ((with_reducible apply st_append1); exact rfl; exact rfl; exact rfl; exact rfl; exact rfl; exact .row rfl; exact List.nil_append _; (rw [List.length_map]; exact ⟨hl, by simp only [maxLen]; omega⟩); exact rfl; exact rfl; exact rfl; exact rfl; exact rfl; exact rfl; exact rfl)
      | ((with_reducible apply st_q RdT.ok); exact rfl; exact rfl)
      | ((with_reducible apply c_condF); exact rfl))
  (with_reducible apply r_own); exact rfl; exact .tmp rfl .nil; exact rfl; exact rfl; exact hS; exact ⟨rfl, _, rfl, rfl⟩
end Go.Proofs.Ytfdaioinghfjpaa
namespace Go.Proofs.Ytfdaioinghfjpaa
open Go.Rd Go.RowKit
set_option maxRecDepth 20000
theorem same_loop {a b : List U} {k : Nat} {u v : U} (h : ∀ i, i < k → a[i]? = b[i]?) (hu : a[k]? = some u) (hv : b[k]? = some v) (e : u = v) : ∀ i, i < k + 1 → a[i]? = b[i]? := by
  intro i hi
  rcases Nat.lt_or_ge i k with h' | h'
  · exact h i h'
  · have : i = k := by omega
    subst this
    rw [hu, hv, e]
def same (a b : Option (List U)) : Bool := decide (a.getD [] = b.getD [])
theorem same_AC (a b : Option (List U)) : ACv Try.prog 32 [uA a, uA b] fun v => v = Rd.bool (same a b) := by
  intro L S hL
  refine fn_St (n := 26) (rs := [.tmp 4]) hands_val RdT.ok RdT.mixed Try.func32 rfl (by kernel_rfl) rfl rfl rfl (by omega) ?_
  intro hS
  cases a with
  | none =>
    cases b with
    | none =>
      show awp _ _ _ _ _ (St L 26 [(0, nilS), (1, nilS)] S [])
      repeat' (first
          | (with_reducible refine want_none ?_)
          | (with_reducible refine c_seq ?_)
          | (with_reducible refine c_region ?_)
          | ((with_reducible refine c_regionD ?_ ?_ ?_ ?_); (kernel_rfl); (exact rfl); (exact rfl))
          | (with_reducible refine c_block ?_)
          | (with_reducible refine aops_nil ?_)
          | (with_reducible refine k_normal ?_)
          | (with_reducible refine c_skip ?_)
          | (with_reducible refine c_exit ?_)
          | (with_reducible refine c_ret ?_)
          | (with_reducible refine k_ret ?_)
          | (with_reducible refine k_exit ?_)
          | (with_reducible refine kl_exit ?_)
          | (with_reducible refine kr_ret ?_)
          | (with_reducible refine kr_exit ?_)
          | (with_reducible refine kb_normal ?_)
          | (with_reducible refine kb_ret ?_)
          | (with_reducible refine kb_hit ?_)
          | ((with_reducible apply st_loadpel); exact rfl; exact rfl; omega; exact rfl; (intro u hu; refine ⟨_, rfl, ?_⟩; try simp only [Int.toNat_natCast] at hu))
          | ((with_reducible apply st_idx); exact rfl; exact rfl; exact rfl; exact rfl; exact rfl; omega)
          | ((with_reducible apply st_len RdT.ok); exact rfl; exact rfl; exact rfl; intro hlen)
          | ((with_reducible apply st_lennil RdT.ok); exact rfl; exact rfl; exact rfl)
          | ((with_reducible apply st_add); exact rfl; exact rfl; exact rfl; omega)
          | ((with_reducible apply st_q RdT.ok); exact rfl; exact rfl)
          | ((with_reducible apply c_condF); exact rfl)
          | ((with_reducible apply c_cond); exact rfl; (first | exact Bp.not Bp.dec | exact Bp.dec | exact Bp.not Bp.bool | exact Bp.bool); all_goals intro hc))
      refine c_loop0 ?_
      repeat' (first
          | (with_reducible refine want_none ?_)
          | (with_reducible refine c_seq ?_)
          | (with_reducible refine c_region ?_)
          | ((with_reducible refine c_regionD ?_ ?_ ?_ ?_); (kernel_rfl); (exact rfl); (exact rfl))
          | (with_reducible refine c_block ?_)
          | (with_reducible refine aops_nil ?_)
          | (with_reducible refine k_normal ?_)
          | (with_reducible refine c_skip ?_)
          | (with_reducible refine c_exit ?_)
          | (with_reducible refine c_ret ?_)
          | (with_reducible refine k_ret ?_)
          | (with_reducible refine k_exit ?_)
          | (with_reducible refine kl_exit ?_)
          | (with_reducible refine kr_ret ?_)
          | (with_reducible refine kr_exit ?_)
          | (with_reducible refine kb_normal ?_)
          | (with_reducible refine kb_ret ?_)
          | (with_reducible refine kb_hit ?_)
          | ((with_reducible apply st_loadpel); exact rfl; exact rfl; omega; exact rfl; (intro u hu; refine ⟨_, rfl, ?_⟩; try simp only [Int.toNat_natCast] at hu))
          | ((with_reducible apply st_idx); exact rfl; exact rfl; exact rfl; exact rfl; exact rfl; omega)
          | ((with_reducible apply st_len RdT.ok); exact rfl; exact rfl; exact rfl; intro hlen)
          | ((with_reducible apply st_lennil RdT.ok); exact rfl; exact rfl; exact rfl)
          | ((with_reducible apply st_add); exact rfl; exact rfl; exact rfl; omega)
          | ((with_reducible apply st_q RdT.ok); exact rfl; exact rfl)
          | ((with_reducible apply c_condF); exact rfl)
          | ((with_reducible apply c_cond); exact rfl; (first | exact Bp.not Bp.dec | exact Bp.dec | exact Bp.not Bp.bool | exact Bp.bool); all_goals intro hc))
      ((with_reducible apply r_one); exact rfl; exact .tmp rfl .nil; exact .s (.pv _); exact hS; refine ⟨rfl, _, rfl, ?_⟩)
      rfl
    | some l =>
      show awp _ _ _ _ _ (St L 26 [(0, nilS), (1, row 4 (l.map encU))] S [])
      repeat' (first
          | (with_reducible refine want_none ?_)
          | (with_reducible refine c_seq ?_)
          | (with_reducible refine c_region ?_)
          | ((with_reducible refine c_regionD ?_ ?_ ?_ ?_); (kernel_rfl); (exact rfl); (exact rfl))
          | (with_reducible refine c_block ?_)
          | (with_reducible refine aops_nil ?_)
          | (with_reducible refine k_normal ?_)
          | (with_reducible refine c_skip ?_)
          | (with_reducible refine c_exit ?_)
          | (with_reducible refine c_ret ?_)
          | (with_reducible refine k_ret ?_)
          | (with_reducible refine k_exit ?_)
          | (with_reducible refine kl_exit ?_)
          | (with_reducible refine kr_ret ?_)
          | (with_reducible refine kr_exit ?_)
          | (with_reducible refine kb_normal ?_)
          | (with_reducible refine kb_ret ?_)
          | (with_reducible refine kb_hit ?_)
          | ((with_reducible apply st_loadpel); exact rfl; exact rfl; omega; exact rfl; (intro u hu; refine ⟨_, rfl, ?_⟩; try simp only [Int.toNat_natCast] at hu))
          | ((with_reducible apply st_idx); exact rfl; exact rfl; exact rfl; exact rfl; exact rfl; omega)
          | ((with_reducible apply st_len RdT.ok); exact rfl; exact rfl; exact rfl; intro hlen)
          | ((with_reducible apply st_lennil RdT.ok); exact rfl; exact rfl; exact rfl)
          | ((with_reducible apply st_add); exact rfl; exact rfl; exact rfl; omega)
          | ((with_reducible apply st_q RdT.ok); exact rfl; exact rfl)
          | ((with_reducible apply c_condF); exact rfl)
          | ((with_reducible apply c_cond); exact rfl; (first | exact Bp.not Bp.dec | exact Bp.dec | exact Bp.not Bp.bool | exact Bp.bool); all_goals intro hc))
      · ((with_reducible apply r_one); exact rfl; exact .tmp rfl .nil; exact .s (.pv _); exact hS; refine ⟨rfl, _, rfl, ?_⟩)
        cases l with
        | nil => simp at hc
        | cons u r => rfl
      · refine c_loop0 ?_
        repeat' (first
            | (with_reducible refine want_none ?_)
            | (with_reducible refine c_seq ?_)
            | (with_reducible refine c_region ?_)
            | ((with_reducible refine c_regionD ?_ ?_ ?_ ?_); (kernel_rfl); (exact rfl); (exact rfl))
            | (with_reducible refine c_block ?_)
            | (with_reducible refine aops_nil ?_)
            | (with_reducible refine k_normal ?_)
            | (with_reducible refine c_skip ?_)
            | (with_reducible refine c_exit ?_)
            | (with_reducible refine c_ret ?_)
            | (with_reducible refine k_ret ?_)
            | (with_reducible refine k_exit ?_)
            | (with_reducible refine kl_exit ?_)
            | (with_reducible refine kr_ret ?_)
            | (with_reducible refine kr_exit ?_)
            | (with_reducible refine kb_normal ?_)
            | (with_reducible refine kb_ret ?_)
            | (with_reducible refine kb_hit ?_)
            | ((with_reducible apply st_loadpel); exact rfl; exact rfl; omega; exact rfl; (intro u hu; refine ⟨_, rfl, ?_⟩; try simp only [Int.toNat_natCast] at hu))
            | ((with_reducible apply st_idx); exact rfl; exact rfl; exact rfl; exact rfl; exact rfl; omega)
            | ((with_reducible apply st_len RdT.ok); exact rfl; exact rfl; exact rfl; intro hlen)
            | ((with_reducible apply st_lennil RdT.ok); exact rfl; exact rfl; exact rfl)
            | ((with_reducible apply st_add); exact rfl; exact rfl; exact rfl; omega)
            | ((with_reducible apply st_q RdT.ok); exact rfl; exact rfl)
            | ((with_reducible apply c_condF); exact rfl)
            | ((with_reducible apply c_cond); exact rfl; (first | exact Bp.not Bp.dec | exact Bp.dec | exact Bp.not Bp.bool | exact Bp.bool); all_goals intro hc))
        ((with_reducible apply r_one); exact rfl; exact .tmp rfl .nil; exact .s (.pv _); exact hS; refine ⟨rfl, _, rfl, ?_⟩)
        cases l with
        | nil => rfl
        | cons u r => simp at hc; omega
  | some l =>
    cases b with
    | none =>
      show awp _ _ _ _ _ (St L 26 [(0, row 4 (l.map encU)), (1, nilS)] S [])
      repeat' (first
          | (with_reducible refine want_none ?_)
          | (with_reducible refine c_seq ?_)
          | (with_reducible refine c_region ?_)
          | ((with_reducible refine c_regionD ?_ ?_ ?_ ?_); (kernel_rfl); (exact rfl); (exact rfl))
          | (with_reducible refine c_block ?_)
          | (with_reducible refine aops_nil ?_)
          | (with_reducible refine k_normal ?_)
          | (with_reducible refine c_skip ?_)
          | (with_reducible refine c_exit ?_)
          | (with_reducible refine c_ret ?_)
          | (with_reducible refine k_ret ?_)
          | (with_reducible refine k_exit ?_)
          | (with_reducible refine kl_exit ?_)
          | (with_reducible refine kr_ret ?_)
          | (with_reducible refine kr_exit ?_)
          | (with_reducible refine kb_normal ?_)
          | (with_reducible refine kb_ret ?_)
          | (with_reducible refine kb_hit ?_)
          | ((with_reducible apply st_loadpel); exact rfl; exact rfl; omega; exact rfl; (intro u hu; refine ⟨_, rfl, ?_⟩; try simp only [Int.toNat_natCast] at hu))
          | ((with_reducible apply st_idx); exact rfl; exact rfl; exact rfl; exact rfl; exact rfl; omega)
          | ((with_reducible apply st_len RdT.ok); exact rfl; exact rfl; exact rfl; intro hlen)
          | ((with_reducible apply st_lennil RdT.ok); exact rfl; exact rfl; exact rfl)
          | ((with_reducible apply st_add); exact rfl; exact rfl; exact rfl; omega)
          | ((with_reducible apply st_q RdT.ok); exact rfl; exact rfl)
          | ((with_reducible apply c_condF); exact rfl)
          | ((with_reducible apply c_cond); exact rfl; (first | exact Bp.not Bp.dec | exact Bp.dec | exact Bp.not Bp.bool | exact Bp.bool); all_goals intro hc))
      · ((with_reducible apply r_one); exact rfl; exact .tmp rfl .nil; exact .s (.pv _); exact hS; refine ⟨rfl, _, rfl, ?_⟩)
        cases l with
        | nil => simp at hc
        | cons u r => rfl
      · refine c_loop0 ?_
        repeat' (first
            | (with_reducible refine want_none ?_)
            | (with_reducible refine c_seq ?_)
            | (with_reducible refine c_region ?_)
            | ((with_reducible refine c_regionD ?_ ?_ ?_ ?_); (kernel_rfl); (exact rfl); (exact rfl))
            | (with_reducible refine c_block ?_)
            | (with_reducible refine aops_nil ?_)
            | (with_reducible refine k_normal ?_)
            | (with_reducible refine c_skip ?_)
            | (with_reducible refine c_exit ?_)
            | (with_reducible refine c_ret ?_)
            | (with_reducible refine k_ret ?_)
            | (with_reducible refine k_exit ?_)
            | (with_reducible refine kl_exit ?_)
            | (with_reducible refine kr_ret ?_)
            | (with_reducible refine kr_exit ?_)
            | (with_reducible refine kb_normal ?_)
            | (with_reducible refine kb_ret ?_)
            | (with_reducible refine kb_hit ?_)
            | ((with_reducible apply st_loadpel); exact rfl; exact rfl; omega; exact rfl; (intro u hu; refine ⟨_, rfl, ?_⟩; try simp only [Int.toNat_natCast] at hu))
            | ((with_reducible apply st_idx); exact rfl; exact rfl; exact rfl; exact rfl; exact rfl; omega)
            | ((with_reducible apply st_len RdT.ok); exact rfl; exact rfl; exact rfl; intro hlen)
            | ((with_reducible apply st_lennil RdT.ok); exact rfl; exact rfl; exact rfl)
            | ((with_reducible apply st_add); exact rfl; exact rfl; exact rfl; omega)
            | ((with_reducible apply st_q RdT.ok); exact rfl; exact rfl)
            | ((with_reducible apply c_condF); exact rfl)
            | ((with_reducible apply c_cond); exact rfl; (first | exact Bp.not Bp.dec | exact Bp.dec | exact Bp.not Bp.bool | exact Bp.bool); all_goals intro hc))
        · exfalso; omega
        · ((with_reducible apply r_one); exact rfl; exact .tmp rfl .nil; exact .s (.pv _); exact hS; refine ⟨rfl, _, rfl, ?_⟩)
          cases l with
          | nil => rfl
          | cons u r => simp at *; try omega
    | some m =>
      show awp _ _ _ _ _ (St L 26 [(0, row 4 (l.map encU)), (1, row 4 (m.map encU))] S [])
      repeat' (first
          | (with_reducible refine want_none ?_)
          | (with_reducible refine c_seq ?_)
          | (with_reducible refine c_region ?_)
          | ((with_reducible refine c_regionD ?_ ?_ ?_ ?_); (kernel_rfl); (exact rfl); (exact rfl))
          | (with_reducible refine c_block ?_)
          | (with_reducible refine aops_nil ?_)
          | (with_reducible refine k_normal ?_)
          | (with_reducible refine c_skip ?_)
          | (with_reducible refine c_exit ?_)
          | (with_reducible refine c_ret ?_)
          | (with_reducible refine k_ret ?_)
          | (with_reducible refine k_exit ?_)
          | (with_reducible refine kl_exit ?_)
          | (with_reducible refine kr_ret ?_)
          | (with_reducible refine kr_exit ?_)
          | (with_reducible refine kb_normal ?_)
          | (with_reducible refine kb_ret ?_)
          | (with_reducible refine kb_hit ?_)
          | ((with_reducible apply st_loadpel); exact rfl; exact rfl; omega; exact rfl; (intro u hu; refine ⟨_, rfl, ?_⟩; try simp only [Int.toNat_natCast] at hu))
          | ((with_reducible apply st_idx); exact rfl; exact rfl; exact rfl; exact rfl; exact rfl; omega)
          | ((with_reducible apply st_len RdT.ok); exact rfl; exact rfl; exact rfl; intro hlen)
          | ((with_reducible apply st_lennil RdT.ok); exact rfl; exact rfl; exact rfl)
          | ((with_reducible apply st_add); exact rfl; exact rfl; exact rfl; omega)
          | ((with_reducible apply st_q RdT.ok); exact rfl; exact rfl)
          | ((with_reducible apply c_condF); exact rfl)
          | ((with_reducible apply c_cond); exact rfl; (first | exact Bp.not Bp.dec | exact Bp.dec | exact Bp.not Bp.bool | exact Bp.bool); all_goals intro hc))
      · ((with_reducible apply r_one); exact rfl; exact .tmp rfl .nil; exact .s (.pv _); exact hS; refine ⟨rfl, _, rfl, ?_⟩)
        have : l ≠ m := fun e => by subst e; simp at hc
        simp [same, this]
      · have hlm : l.length = m.length := by omega
        refine c_loop (β := Nat) (fun k => k ≤ l.length ∧ ∀ i, i < k → l[i]? = m[i]?) (fun k => l.length - k) (fun k => [(0, row 4 (l.map encU)), (1, row 4 (m.map encU)), (5, int k)]) (fun _ => []) 0 ⟨Nat.zero_le _, fun i hi => by omega⟩ ⟨rfl, rfl, rfl, trivial⟩ trivial rfl rfl ?_
        rintro k ⟨hk, hm⟩
        repeat' (first
            | (with_reducible refine want_none ?_)
            | (with_reducible refine c_seq ?_)
            | (with_reducible refine c_region ?_)
            | ((with_reducible refine c_regionD ?_ ?_ ?_ ?_); (kernel_rfl); (exact rfl); (exact rfl))
            | (with_reducible refine c_block ?_)
            | (with_reducible refine aops_nil ?_)
            | (with_reducible refine k_normal ?_)
            | (with_reducible refine c_skip ?_)
            | (with_reducible refine c_exit ?_)
            | (with_reducible refine c_ret ?_)
            | (with_reducible refine k_ret ?_)
            | (with_reducible refine k_exit ?_)
            | (with_reducible refine kl_exit ?_)
            | (with_reducible refine kr_ret ?_)
            | (with_reducible refine kr_exit ?_)
            | (with_reducible refine kb_normal ?_)
            | (with_reducible refine kb_ret ?_)
            | (with_reducible refine kb_hit ?_)
            | ((with_reducible apply st_neqagg); exact rfl; exact rfl; exact rfl; exact rfl; exact rfl; exact eq41 _ _)
            | ((with_reducible apply st_loadpel); exact rfl; exact rfl; omega; exact rfl; (intro u hu; refine ⟨_, rfl, ?_⟩; try simp only [Int.toNat_natCast] at hu))
            | ((with_reducible apply st_idx); exact rfl; exact rfl; exact rfl; exact rfl; exact rfl; omega)
            | ((with_reducible apply st_len RdT.ok); exact rfl; exact rfl; exact rfl; intro hlen)
            | ((with_reducible apply st_lennil RdT.ok); exact rfl; exact rfl; exact rfl)
            | ((with_reducible apply st_add); exact rfl; exact rfl; exact rfl; omega)
            | ((with_reducible apply st_q RdT.ok); exact rfl; exact rfl)
            | ((with_reducible apply c_condF); exact rfl)
            | ((with_reducible apply c_cond); exact rfl; (first | exact Bp.not Bp.dec | exact Bp.dec | exact Bp.not Bp.bool | exact Bp.bool); all_goals intro hc))
        · ((with_reducible apply r_one); exact rfl; exact .tmp rfl .nil; exact .s (.pv _); exact hS; refine ⟨rfl, _, rfl, ?_⟩)
          have : l ≠ m := by rintro rfl; simp_all
          simp [same, this]
        · (with_reducible refine k_back (k + 1) ?_ ?_ ?_ ?_ ?_ ?_)
          · exact ⟨by omega, same_loop hm (by assumption) (by assumption) (Classical.not_not.1 (by assumption))⟩
          · omega
          · exact ⟨rfl, rfl, rfl, trivial⟩
          · trivial
          · exact rfl
          · exact rfl
        · ((with_reducible apply r_one); exact rfl; exact .tmp rfl .nil; exact .s (.pv _); exact hS; refine ⟨rfl, _, rfl, ?_⟩)
          have : l = m := by
            apply List.ext_getElem?
            intro i
            rcases Nat.lt_or_ge i k with h | h
            · exact hm i h
            · rw [List.getElem?_eq_none (by omega), List.getElem?_eq_none (by omega)]
          simp [same, this]
def fits (bs : List Bool) (at' n : Int) : Bool := decide (1 ≤ n ∧ 0 ≤ at' ∧ at' + n ≤ bs.length) && ((bs.drop at'.toNat).take n.toNat).all (!·)
theorem fits_iff (bs : List Bool) (at' n : Int) : fits bs at' n = true ↔ 1 ≤ n ∧ 0 ≤ at' ∧ at' + n ≤ bs.length ∧ ∀ i : Nat, i < n.toNat → bs[at'.toNat + i]? = some false := by
  unfold fits
  rw [Bool.and_eq_true, decide_eq_true_eq, List.all_eq_true]
  constructor
  · rintro ⟨⟨h1, h2, h3⟩, h4⟩
    refine ⟨h1, h2, h3, fun i hi => ?_⟩
    have hlt : at'.toNat + i < bs.length := by omega
    have : bs[at'.toNat + i] ∈ (bs.drop at'.toNat).take n.toNat := by
      rw [List.mem_iff_getElem?]
      exact ⟨i, by rw [List.getElem?_take, if_pos hi, List.getElem?_drop, List.getElem?_eq_getElem hlt]⟩
    have := h4 _ this
    rw [List.getElem?_eq_getElem hlt]
    simpa using this
  · rintro ⟨h1, h2, h3, h4⟩
    refine ⟨⟨h1, h2, h3⟩, fun b hb => ?_⟩
    obtain ⟨i, hi⟩ := List.mem_iff_getElem?.1 hb
    rw [List.getElem?_take] at hi
    split at hi
    · rename_i hlt
      rw [List.getElem?_drop, h4 i hlt] at hi
      cases hi; rfl
    · cases hi
theorem fits_AC (bs : List Bool) (at' n : Int) : ACv Try.prog 35 [bA (some bs), .s (.pv (.lit (.int .i64 at'))), .s (.pv (.lit (.int .i64 n)))] fun v => v = Rd.bool (fits bs at' n) := by
  intro L S hL
  refine fn_St (n := 39) (rs := [.tmp 6]) hands_val RdT.ok RdT.mixed Try.func35 rfl (by kernel_rfl) rfl rfl rfl (by omega) ?_
  intro hS
  show awp _ _ _ _ _ (St L 39 [(0, row 1 (bs.map encB)), (1, int at'), (2, int n)] S [])
  repeat' (first
      | (with_reducible refine want_none ?_)
      | (with_reducible refine c_seq ?_)
      | (with_reducible refine c_region ?_)
      | (with_reducible refine c_block ?_)
      | (with_reducible refine aops_nil ?_)
      | (with_reducible refine k_normal ?_)
      | (with_reducible refine c_skip ?_)
      | (with_reducible refine c_exit ?_)
      | (with_reducible refine c_ret ?_)
      | (with_reducible refine k_ret ?_)
      | (with_reducible refine k_exit ?_)
      | (with_reducible refine kr_ret ?_)
      | (with_reducible refine kr_exit ?_)
      | (with_reducible refine kb_normal ?_)
      | (with_reducible refine kb_ret ?_)
      | (with_reducible refine kb_hit ?_)
      | ((with_reducible apply want_run); exact rfl; exact rfl)
      | ((with_reducible apply want_skip); exact rfl; exact rfl; exact rfl)
      | ((with_reducible apply want_forkF); exact rfl; exact rfl; exact rfl; (first | exact Bp.not Bp.dec | exact Bp.dec | exact Bp.not Bp.bool | exact Bp.bool); all_goals intro hc)
      | ((with_reducible apply st_loadpel); exact rfl; exact rfl; omega; exact rfl; (intro u hu; refine ⟨_, rfl, ?_⟩; try simp only [Int.toNat_natCast] at hu))
      | ((with_reducible apply st_idx); exact rfl; exact rfl; exact rfl; exact rfl; exact rfl; omega)
      | ((with_reducible apply st_len RdT.ok); exact rfl; exact rfl; exact rfl; intro hlen)
      | ((with_reducible apply st_add); exact rfl; exact rfl; exact rfl; omega)
      | ((with_reducible apply st_sub); exact rfl; exact rfl; exact rfl; omega)
      | ((with_reducible apply st_q RdT.ok); exact rfl; exact rfl)
      | ((with_reducible apply c_condT); exact rfl)
      | ((with_reducible apply c_cond); exact rfl; (first | exact Bp.not Bp.dec | exact Bp.dec | exact Bp.not Bp.bool | exact Bp.bool); all_goals intro hc))
  · ((with_reducible apply r_one); exact rfl; exact .tmp rfl .nil; exact .s (.pv _); exact hS; refine ⟨rfl, _, rfl, ?_⟩)
    have : fits bs at' n = false := by rw [← Bool.not_eq_true, fits_iff]; omega
    rw [this]
  · ((with_reducible apply r_one); exact rfl; exact .tmp rfl .nil; exact .s (.pv _); exact hS; refine ⟨rfl, _, rfl, ?_⟩)
    have : fits bs at' n = false := by rw [← Bool.not_eq_true, fits_iff]; omega
    rw [this]
  · ((with_reducible apply r_one); exact rfl; exact .tmp rfl .nil; exact .s (.pv _); exact hS; refine ⟨rfl, _, rfl, ?_⟩)
    have : fits bs at' n = false := by rw [← Bool.not_eq_true, fits_iff]; omega
    rw [this]
  · ((with_reducible apply r_one); exact rfl; exact .tmp rfl .nil; exact .s (.pv _); exact hS; refine ⟨rfl, _, rfl, ?_⟩)
    have : fits bs at' n = false := by rw [← Bool.not_eq_true, fits_iff]; omega
    rw [this]
  · have h0 : 1 ≤ n ∧ 0 ≤ at' ∧ at' + n ≤ bs.length := by omega
    refine c_loop (β := Nat) (fun k => (k : Int) ≤ n ∧ ∀ i, i < k → bs[at'.toNat + i]? = some false) (fun k => n.toNat - k) (fun k => [(0, row 1 (bs.map encB)), (1, int at'), (2, int n), (7, int k)]) (fun _ => []) 0 ⟨by omega, fun i hi => by omega⟩ ⟨rfl, rfl, rfl, rfl, trivial⟩ trivial rfl rfl ?_
    rintro k ⟨hk, hm⟩
    repeat' (first
        | (with_reducible refine want_none ?_)
        | (with_reducible refine c_seq ?_)
        | (with_reducible refine c_region ?_)
        | (with_reducible refine c_block ?_)
        | (with_reducible refine aops_nil ?_)
        | (with_reducible refine k_normal ?_)
        | (with_reducible refine c_skip ?_)
        | (with_reducible refine c_exit ?_)
        | (with_reducible refine c_ret ?_)
        | (with_reducible refine k_ret ?_)
        | (with_reducible refine k_exit ?_)
        | (with_reducible refine kr_ret ?_)
        | (with_reducible refine kr_exit ?_)
        | (with_reducible refine kb_normal ?_)
        | (with_reducible refine kb_ret ?_)
        | (with_reducible refine kb_hit ?_)
        | ((with_reducible apply want_run); exact rfl; exact rfl)
        | ((with_reducible apply want_skip); exact rfl; exact rfl; exact rfl)
        | ((with_reducible apply want_forkF); exact rfl; exact rfl; exact rfl; (first | exact Bp.not Bp.dec | exact Bp.dec | exact Bp.not Bp.bool | exact Bp.bool); all_goals intro hc)
        | ((with_reducible apply st_loadpel); exact rfl; exact rfl; omega; exact rfl; (intro u hu; refine ⟨_, rfl, ?_⟩; try simp only [Int.toNat_natCast] at hu))
        | ((with_reducible apply st_idx); exact rfl; exact rfl; exact rfl; exact rfl; exact rfl; omega)
        | ((with_reducible apply st_len RdT.ok); exact rfl; exact rfl; exact rfl; intro hlen)
        | ((with_reducible apply st_add); exact rfl; exact rfl; exact rfl; omega)
        | ((with_reducible apply st_sub); exact rfl; exact rfl; exact rfl; omega)
        | ((with_reducible apply st_q RdT.ok); exact rfl; exact rfl)
        | ((with_reducible apply c_condT); exact rfl)
        | ((with_reducible apply c_cond); exact rfl; (first | exact Bp.not Bp.dec | exact Bp.dec | exact Bp.not Bp.bool | exact Bp.bool); all_goals intro hc))
    · ((with_reducible apply r_one); exact rfl; exact .tmp rfl .nil; exact .s (.pv _); exact hS; refine ⟨rfl, _, rfl, ?_⟩)
      have : fits bs at' n = false := by
        rw [← Bool.not_eq_true, fits_iff]
        rintro ⟨_, _, _, h⟩
        have := h k (by omega)
        rw [show (at' + (k : Int)).toNat = at'.toNat + k by omega] at hu
        simp_all
      rw [this]
    · (with_reducible refine k_back (k + 1) ?_ ?_ ?_ ?_ ?_ ?_)
      · refine ⟨by omega, fun i hi => ?_⟩
        rcases Nat.lt_or_ge i k with h | h
        · exact hm i h
        · have : i = k := by omega
          subst this
          rw [show (at' + (i : Int)).toNat = at'.toNat + i by omega] at hu
          rw [hu]
          cases u <;> simp_all
      · omega
      · exact ⟨rfl, rfl, rfl, rfl, trivial⟩
      · trivial
      · exact rfl
      · exact rfl
    · ((with_reducible apply r_one); exact rfl; exact .tmp rfl .nil; exact .s (.pv _); exact hS; refine ⟨rfl, _, rfl, ?_⟩)
      have : fits bs at' n = true := by
        rw [fits_iff]
        exact ⟨h0.1, h0.2.1, h0.2.2, fun i hi => hm i (by omega)⟩
      rw [this]
def free : List Bool → Nat
  | [] => 0
  | b :: r => (if b = true then 0 else 1) + free r
theorem free_le : ∀ (l : List Bool), free l ≤ l.length
  | [] => Nat.le_refl _
  | b :: r => by
    have := free_le r
    unfold free
    rw [List.length_cons]
    split <;> omega
theorem free_AC (bs : List Bool) : ACv Try.prog 37 [bA (some bs)] fun v => v = Rd.int (free bs) := by
  intro L S hL
  refine fn_St (n := 19) (rs := [.tmp 2]) hands_val RdT.ok RdT.mixed Try.func37 rfl (by kernel_rfl) rfl rfl rfl (by omega) ?_
  intro hS
  show awp _ _ _ _ _ (St L 19 [(0, row 1 (bs.map encB))] S [])
  repeat' (first
      | (with_reducible refine want_none ?_)
      | (with_reducible refine c_seq ?_)
      | (with_reducible refine c_region ?_)
      | (with_reducible refine c_block ?_)
      | (with_reducible refine aops_nil ?_)
      | (with_reducible refine k_normal ?_)
      | (with_reducible refine c_skip ?_)
      | (with_reducible refine c_exit ?_)
      | (with_reducible refine c_ret ?_)
      | (with_reducible refine k_exit ?_)
      | (with_reducible refine kr_exit ?_)
      | (with_reducible refine kb_normal ?_)
      | (with_reducible refine kb_hit ?_)
      | ((with_reducible apply st_loadpel); exact rfl; exact rfl; omega; exact rfl; (intro u hu; refine ⟨_, rfl, ?_⟩; try simp only [Int.toNat_natCast] at hu))
      | ((with_reducible apply st_idx); exact rfl; exact rfl; exact rfl; exact rfl; exact rfl; omega)
      | ((with_reducible apply st_len RdT.ok); exact rfl; exact rfl; exact rfl; intro hlen)
      | ((with_reducible apply st_add); exact rfl; exact rfl; exact rfl; omega)
      | ((with_reducible apply st_q RdT.ok); exact rfl; exact rfl)
      | ((with_reducible apply c_cond); exact rfl; (first | exact Bp.not Bp.dec | exact Bp.dec | exact Bp.not Bp.bool | exact Bp.bool); all_goals intro hc))
  refine c_loop (β := Nat × Nat) (fun b => b.1 ≤ bs.length ∧ b.2 ≤ b.1 ∧ b.2 + free (bs.drop b.1) = free bs) (fun b => bs.length - b.1) (fun b => [(0, row 1 (bs.map encB)), (3, int b.2), (4, int b.1)]) (fun _ => []) (0, 0) ⟨Nat.zero_le _, Nat.zero_le _, by simp⟩ ⟨rfl, rfl, rfl, trivial⟩ trivial rfl rfl ?_
  rintro ⟨k, m⟩ ⟨hk, hmk, hm⟩
  dsimp only at hk hmk hm ⊢
  have hb := free_le bs
  have hb2 := free_le (bs.drop k)
  rw [List.length_drop] at hb2
  repeat' (first
      | (with_reducible refine want_none ?_)
      | (with_reducible refine c_seq ?_)
      | (with_reducible refine c_region ?_)
      | (with_reducible refine c_block ?_)
      | (with_reducible refine aops_nil ?_)
      | (with_reducible refine k_normal ?_)
      | (with_reducible refine c_skip ?_)
      | (with_reducible refine c_exit ?_)
      | (with_reducible refine c_ret ?_)
      | (with_reducible refine k_exit ?_)
      | (with_reducible refine kr_exit ?_)
      | (with_reducible refine kb_normal ?_)
      | (with_reducible refine kb_hit ?_)
      | ((with_reducible apply st_loadpel); exact rfl; exact rfl; omega; exact rfl; (intro u hu; refine ⟨_, rfl, ?_⟩; try simp only [Int.toNat_natCast] at hu))
      | ((with_reducible apply st_idx); exact rfl; exact rfl; exact rfl; exact rfl; exact rfl; omega)
      | ((with_reducible apply st_len RdT.ok); exact rfl; exact rfl; exact rfl; intro hlen)
      | ((with_reducible apply st_add); exact rfl; exact rfl; exact rfl; omega)
      | ((with_reducible apply st_q RdT.ok); exact rfl; exact rfl)
      | ((with_reducible apply c_cond); exact rfl; (first | exact Bp.not Bp.dec | exact Bp.dec | exact Bp.not Bp.bool | exact Bp.bool); all_goals intro hc))
  · (with_reducible refine k_back (k + 1, m + 1) ?_ ?_ ?_ ?_ ?_ ?_)
    · refine ⟨by dsimp only; omega, by dsimp only; omega, ?_⟩
      rw [drop_cons hu, free] at hm
      simp_all
      omega
    · dsimp only; omega
    · exact ⟨rfl, rfl, rfl, trivial⟩
    · trivial
    · exact rfl
    · exact rfl
  · (with_reducible refine k_back (k + 1, m) ?_ ?_ ?_ ?_ ?_ ?_)
    · refine ⟨by dsimp only; omega, by dsimp only; omega, ?_⟩
      rw [drop_cons hu, free] at hm
      simp_all
    · dsimp only; omega
    · exact ⟨rfl, rfl, rfl, trivial⟩
    · trivial
    · exact rfl
    · exact rfl
  · ((with_reducible apply r_one); exact rfl; exact .tmp rfl .nil; exact .s (.pv _); exact hS; refine ⟨rfl, _, rfl, ?_⟩)
    rw [List.drop_of_length_le (by omega)] at hm
    simp only [free] at hm
    rw [← hm]; rfl
end Go.Proofs.Ytfdaioinghfjpaa
namespace Go.Proofs.Ytfdaioinghfjpaa
open Go.Rd Go.RowKit
set_option maxRecDepth 20000
theorem refMay_AC (o : Option (List U)) : ACv Try.prog 26 [uA o] (fun v => v = Rd.bool (may o)) := by
  intro L S hL
  refine fn_St (n := 81) (rs := [.tmp 2]) hands_val RdT.ok RdT.mixed Try.func26 rfl (by kernel_rfl) rfl rfl rfl hL ?_
  intro hS
  cases o with
  | none =>
    show awp _ _ _ _ _ (St L 81 [(0, nilS)] S [])
    repeat' (first
        | (with_reducible refine want_none ?_)
        | (with_reducible refine c_seq ?_)
        | (with_reducible refine c_region ?_)
        | ((with_reducible refine c_regionD ?_ ?_ ?_ ?_); (kernel_rfl); (exact rfl); (exact rfl))
        | (with_reducible refine c_block ?_)
        | (with_reducible refine aops_nil ?_)
        | (with_reducible refine k_normal ?_)
        | (with_reducible refine c_skip ?_)
        | (with_reducible refine c_exit ?_)
        | (with_reducible refine c_ret ?_)
        | (with_reducible refine k_ret ?_)
        | (with_reducible refine k_exit ?_)
        | (with_reducible refine kl_exit ?_)
        | (with_reducible refine kr_ret ?_)
        | (with_reducible refine kr_exit ?_)
        | (with_reducible refine kb_normal ?_)
        | (with_reducible refine kb_ret ?_)
        | (with_reducible refine kb_hit ?_)
        | ((with_reducible apply want_run); exact rfl; exact rfl)
        | ((with_reducible apply want_skip); exact rfl; exact rfl; exact rfl)
        | ((with_reducible apply want_out); exact rfl; exact rfl; exact rfl)
        | ((with_reducible apply want_forkF); exact rfl; exact rfl; exact rfl; (first | exact Bp.not Bp.dec | exact Bp.dec | exact Bp.not Bp.bool | exact Bp.bool); all_goals intro hc)
        | ((with_reducible apply want_forkT); exact rfl; exact rfl; exact rfl; (first | exact Bp.not Bp.dec | exact Bp.dec | exact Bp.not Bp.bool | exact Bp.bool); all_goals intro hc)
        | ((with_reducible apply st_alloc); exact rfl; exact rfl; exact rfl; exact rfl)
        | ((with_reducible apply st_loadpelK); exact rfl; exact rfl; assumption; exact rfl; exact rfl)
        | ((with_reducible apply st_loadpel); exact rfl; exact rfl; omega; exact rfl; (intro u hu; refine ⟨_, rfl, ?_⟩; try simp only [Int.toNat_natCast] at hu))
        | ((with_reducible apply st_load); exact rfl; exact rfl; exact rfl; exact rfl; exact rfl)
        | ((with_reducible apply st_store); exact rfl; exact rfl; exact rfl; exact rfl; exact rfl; exact rfl)
        | ((with_reducible apply st_idx); exact rfl; exact rfl; exact rfl; exact rfl; exact rfl; omega)
        | ((with_reducible apply st_len RdT.ok); exact rfl; exact rfl; exact rfl; intro hlen)
        | ((with_reducible apply st_lennil RdT.ok); exact rfl; exact rfl; exact rfl)
        | ((with_reducible apply st_add); exact rfl; exact rfl; exact rfl; omega)
        | ((with_reducible apply st_sub); exact rfl; exact rfl; exact rfl; omega)
        | ((with_reducible apply st_q RdT.ok); exact rfl; exact rfl)
        | ((with_reducible apply c_condT); exact rfl)
        | ((with_reducible apply c_condF); exact rfl)
        | ((with_reducible apply c_cond); exact rfl; (first | exact Bp.not Bp.dec | exact Bp.dec | exact Bp.not Bp.bool | exact Bp.bool); all_goals intro hc))
    refine c_loop0 ?_
    repeat' (first
        | (with_reducible refine want_none ?_)
        | (with_reducible refine c_seq ?_)
        | (with_reducible refine c_region ?_)
        | ((with_reducible refine c_regionD ?_ ?_ ?_ ?_); (kernel_rfl); (exact rfl); (exact rfl))
        | (with_reducible refine c_block ?_)
        | (with_reducible refine aops_nil ?_)
        | (with_reducible refine k_normal ?_)
        | (with_reducible refine c_skip ?_)
        | (with_reducible refine c_exit ?_)
        | (with_reducible refine c_ret ?_)
        | (with_reducible refine k_ret ?_)
        | (with_reducible refine k_exit ?_)
        | (with_reducible refine kl_exit ?_)
        | (with_reducible refine kr_ret ?_)
        | (with_reducible refine kr_exit ?_)
        | (with_reducible refine kb_normal ?_)
        | (with_reducible refine kb_ret ?_)
        | (with_reducible refine kb_hit ?_)
        | ((with_reducible apply want_run); exact rfl; exact rfl)
        | ((with_reducible apply want_skip); exact rfl; exact rfl; exact rfl)
        | ((with_reducible apply want_out); exact rfl; exact rfl; exact rfl)
        | ((with_reducible apply want_forkF); exact rfl; exact rfl; exact rfl; (first | exact Bp.not Bp.dec | exact Bp.dec | exact Bp.not Bp.bool | exact Bp.bool); all_goals intro hc)
        | ((with_reducible apply want_forkT); exact rfl; exact rfl; exact rfl; (first | exact Bp.not Bp.dec | exact Bp.dec | exact Bp.not Bp.bool | exact Bp.bool); all_goals intro hc)
        | ((with_reducible apply st_alloc); exact rfl; exact rfl; exact rfl; exact rfl)
        | ((with_reducible apply st_loadpelK); exact rfl; exact rfl; assumption; exact rfl; exact rfl)
        | ((with_reducible apply st_loadpel); exact rfl; exact rfl; omega; exact rfl; (intro u hu; refine ⟨_, rfl, ?_⟩; try simp only [Int.toNat_natCast] at hu))
        | ((with_reducible apply st_load); exact rfl; exact rfl; exact rfl; exact rfl; exact rfl)
        | ((with_reducible apply st_store); exact rfl; exact rfl; exact rfl; exact rfl; exact rfl; exact rfl)
        | ((with_reducible apply st_idx); exact rfl; exact rfl; exact rfl; exact rfl; exact rfl; omega)
        | ((with_reducible apply st_len RdT.ok); exact rfl; exact rfl; exact rfl; intro hlen)
        | ((with_reducible apply st_lennil RdT.ok); exact rfl; exact rfl; exact rfl)
        | ((with_reducible apply st_add); exact rfl; exact rfl; exact rfl; omega)
        | ((with_reducible apply st_sub); exact rfl; exact rfl; exact rfl; omega)
        | ((with_reducible apply st_q RdT.ok); exact rfl; exact rfl)
        | ((with_reducible apply c_condT); exact rfl)
        | ((with_reducible apply c_condF); exact rfl)
        | ((with_reducible apply c_cond); exact rfl; (first | exact Bp.not Bp.dec | exact Bp.dec | exact Bp.not Bp.bool | exact Bp.bool); all_goals intro hc))
    ((with_reducible apply r_one); exact rfl; exact .tmp rfl .nil; exact .s (.pv _); exact hS; refine ⟨rfl, _, rfl, ?_⟩)
    rfl
  | some l =>
    show awp _ _ _ _ _ (St L 81 [(0, row 4 (l.map encU))] S [])
    show awp _ _ _ _ (retQ _ _ (exitVal fun r S' => S' = S ∧ ∃ v, r = .val v ∧ v = Rd.bool (may1 0 l))) _
    repeat' (first
        | (with_reducible refine want_none ?_)
        | (with_reducible refine c_seq ?_)
        | (with_reducible refine c_region ?_)
        | ((with_reducible refine c_regionD ?_ ?_ ?_ ?_); (kernel_rfl); (exact rfl); (exact rfl))
        | (with_reducible refine c_block ?_)
        | (with_reducible refine aops_nil ?_)
        | (with_reducible refine k_normal ?_)
        | (with_reducible refine c_skip ?_)
        | (with_reducible refine c_exit ?_)
        | (with_reducible refine c_ret ?_)
        | (with_reducible refine k_ret ?_)
        | (with_reducible refine k_exit ?_)
        | (with_reducible refine kl_exit ?_)
        | (with_reducible refine kr_ret ?_)
        | (with_reducible refine kr_exit ?_)
        | (with_reducible refine kb_normal ?_)
        | (with_reducible refine kb_ret ?_)
        | (with_reducible refine kb_hit ?_)
        | ((with_reducible apply want_run); exact rfl; exact rfl)
        | ((with_reducible apply want_skip); exact rfl; exact rfl; exact rfl)
        | ((with_reducible apply want_out); exact rfl; exact rfl; exact rfl)
        | ((with_reducible apply want_forkF); exact rfl; exact rfl; exact rfl; (first | exact Bp.not Bp.dec | exact Bp.dec | exact Bp.not Bp.bool | exact Bp.bool); all_goals intro hc)
        | ((with_reducible apply want_forkT); exact rfl; exact rfl; exact rfl; (first | exact Bp.not Bp.dec | exact Bp.dec | exact Bp.not Bp.bool | exact Bp.bool); all_goals intro hc)
        | ((with_reducible apply st_alloc); exact rfl; exact rfl; exact rfl; exact rfl)
        | ((with_reducible apply st_loadpelK); exact rfl; exact rfl; assumption; exact rfl; exact rfl)
        | ((with_reducible apply st_loadpel); exact rfl; exact rfl; omega; exact rfl; (intro u hu; refine ⟨_, rfl, ?_⟩; try simp only [Int.toNat_natCast] at hu))
        | ((with_reducible apply st_load); exact rfl; exact rfl; exact rfl; exact rfl; exact rfl)
        | ((with_reducible apply st_store); exact rfl; exact rfl; exact rfl; exact rfl; exact rfl; exact rfl)
        | ((with_reducible apply st_idx); exact rfl; exact rfl; exact rfl; exact rfl; exact rfl; omega)
        | ((with_reducible apply st_len RdT.ok); exact rfl; exact rfl; exact rfl; intro hlen)
        | ((with_reducible apply st_lennil RdT.ok); exact rfl; exact rfl; exact rfl)
        | ((with_reducible apply st_add); exact rfl; exact rfl; exact rfl; omega)
        | ((with_reducible apply st_sub); exact rfl; exact rfl; exact rfl; omega)
        | ((with_reducible apply st_q RdT.ok); exact rfl; exact rfl)
        | ((with_reducible apply c_condT); exact rfl)
        | ((with_reducible apply c_condF); exact rfl)
        | ((with_reducible apply c_cond); exact rfl; (first | exact Bp.not Bp.dec | exact Bp.dec | exact Bp.not Bp.bool | exact Bp.bool); all_goals intro hc))
    refine c_loop (β := Int × Nat) (fun b => b.2 ≤ l.length ∧ 0 ≤ b.1 ∧ (b.2 = 0 → b.1 = 0) ∧ (∀ q, l[((b.2 : Int) - 1).toNat]? = some q → 0 < b.2 → b.1 = q.pos + q.len ∧ 1 ≤ q.len ∧ q.len ≤ 8 ∧ 0 ≤ q.pos ∧ q.pos ≤ 16) ∧ may1 0 l = may1 b.1 (l.drop b.2)) (fun b => l.length - b.2) (fun b => [(0, row 4 (l.map encU)), (3, int b.2)]) (fun _ => []) (0, 0) ⟨Nat.zero_le _, Int.le_refl _, fun _ => rfl, fun _ _ h => absurd h (by decide), rfl⟩ ⟨rfl, rfl, trivial⟩ trivial rfl rfl ?_
    rintro ⟨e, k⟩ ⟨hk, he, h0, hprev, hm⟩
    dsimp only at hk he h0 hprev hm ⊢
    repeat' (first
        | (with_reducible refine want_none ?_)
        | (with_reducible refine c_seq ?_)
        | (with_reducible refine c_region ?_)
        | ((with_reducible refine c_regionD ?_ ?_ ?_ ?_); (kernel_rfl); (exact rfl); (exact rfl))
        | (with_reducible refine c_block ?_)
        | (with_reducible refine aops_nil ?_)
        | (with_reducible refine k_normal ?_)
        | (with_reducible refine c_skip ?_)
        | (with_reducible refine c_exit ?_)
        | (with_reducible refine c_ret ?_)
        | (with_reducible refine k_ret ?_)
        | (with_reducible refine k_exit ?_)
        | (with_reducible refine kl_exit ?_)
        | (with_reducible refine kr_ret ?_)
        | (with_reducible refine kr_exit ?_)
        | (with_reducible refine kb_normal ?_)
        | (with_reducible refine kb_ret ?_)
        | (with_reducible refine kb_hit ?_)
        | ((with_reducible apply want_run); exact rfl; exact rfl)
        | ((with_reducible apply want_skip); exact rfl; exact rfl; exact rfl)
        | ((with_reducible apply want_out); exact rfl; exact rfl; exact rfl)
        | ((with_reducible apply want_forkF); exact rfl; exact rfl; exact rfl; (first | exact Bp.not Bp.dec | exact Bp.dec | exact Bp.not Bp.bool | exact Bp.bool); all_goals intro hc)
        | ((with_reducible apply want_forkT); exact rfl; exact rfl; exact rfl; (first | exact Bp.not Bp.dec | exact Bp.dec | exact Bp.not Bp.bool | exact Bp.bool); all_goals intro hc)
        | ((with_reducible apply st_loadpelK); exact rfl; exact rfl; assumption; exact rfl; exact rfl)
        | ((with_reducible apply st_loadpel); exact rfl; exact rfl; omega; exact rfl; (intro u' hu'; refine ⟨_, rfl, ?_⟩; have hq := hprev u' hu' (by omega)))
        | ((with_reducible apply st_alloc); exact rfl; exact rfl; exact rfl; exact rfl)
        | ((with_reducible apply st_loadpelK); exact rfl; exact rfl; assumption; exact rfl; exact rfl)
        | ((with_reducible apply st_loadpel); exact rfl; exact rfl; omega; exact rfl; (intro u hu; refine ⟨_, rfl, ?_⟩; try simp only [Int.toNat_natCast] at hu))
        | ((with_reducible apply st_load); exact rfl; exact rfl; exact rfl; exact rfl; exact rfl)
        | ((with_reducible apply st_store); exact rfl; exact rfl; exact rfl; exact rfl; exact rfl; exact rfl)
        | ((with_reducible apply st_idx); exact rfl; exact rfl; exact rfl; exact rfl; exact rfl; omega)
        | ((with_reducible apply st_len RdT.ok); exact rfl; exact rfl; exact rfl; intro hlen)
        | ((with_reducible apply st_lennil RdT.ok); exact rfl; exact rfl; exact rfl)
        | ((with_reducible apply st_add); exact rfl; exact rfl; exact rfl; omega)
        | ((with_reducible apply st_sub); exact rfl; exact rfl; exact rfl; omega)
        | ((with_reducible apply st_q RdT.ok); exact rfl; exact rfl)
        | ((with_reducible apply c_condT); exact rfl)
        | ((with_reducible apply c_condF); exact rfl)
        | ((with_reducible apply c_cond); exact rfl; (first | exact Bp.not Bp.dec | exact Bp.dec | exact Bp.not Bp.bool | exact Bp.bool); all_goals intro hc))
    all_goals first
      | ((with_reducible apply r_one); exact rfl; exact .tmp rfl .nil; exact .s (.pv _); exact hS; refine ⟨rfl, _, rfl, ?_⟩)
      | ((with_reducible refine k_back (u.pos + u.len, k + 1) ?_ ?_ ?_ ?_ ?_ ?_); refine ⟨by dsimp only; omega, by dsimp only; omega, fun h => absurd h (by simp), fun q hq' _ => ?_, ?_⟩; all_goals first | exact rfl | exact trivial | (dsimp only; omega) | exact ⟨rfl, rfl, trivial⟩ | skip)
    all_goals first
      | (rw [hm, drop_cons hu, may1, if_pos (by omega)]; done)
      | (clear hprev; rw [hm, drop_cons hu, may1]; split; (rfl); rw [if_pos (by first | omega | (simp_all; done))]; done)
      | (clear hprev; rw [hm, drop_cons hu, may1, if_neg (by omega), if_neg (by rintro (h | h | ⟨h, h'⟩) <;> first | omega | simp_all)]; done)
      | (rw [hm, List.drop_of_length_le (by omega)]; rfl)
      | (simp only [show (((k + 1 : Nat) : Int) - 1).toNat = k by omega] at hq'; rw [hu] at hq'; cases hq'; refine ⟨rfl, ?_⟩; omega)
def has1 (l : List U) (u : U) : Bool := l.any fun v => decide (v.pos = u.pos) && (decide (v.len = u.len) && v.old)
theorem any_false {α : Type} {p : α → Bool} {l : List α} (h : ∀ (i : Nat) (x : α), i < l.length → l[i]? = some x → p x = false) : l.any p = false := by
  rw [List.any_eq_false]
  intro x hx
  obtain ⟨i, hi⟩ := List.mem_iff_getElem?.1 hx
  rw [h i x (List.getElem?_eq_some_iff.1 hi).1 hi]
  decide
theorem any_true {α : Type} {p : α → Bool} {l : List α} {i : Nat} {x : α} (h : l[i]? = some x) (hp : p x = true) : l.any p = true := List.any_eq_true.2 ⟨x, List.mem_of_getElem? h, hp⟩
def has (o : Option (List U)) (u : U) : Bool := has1 (o.getD []) u
end Go.Proofs.Ytfdaioinghfjpaa
namespace Go.Proofs.Ytfdaioinghfjpaa
open Go.Rd Go.RowKit
set_option maxRecDepth 20000
theorem may1_cons {e : Int} {u : U} {r : List U} (h : may1 e (u :: r) = true) : 1 ≤ u.len ∧ u.len ≤ 8 ∧ e ≤ u.pos ∧ u.pos ≤ 16 - u.len ∧ 0 ≤ u.count ∧ u.count ≤ 1000000 ∧ (u.old = true ∨ u.count ≠ 0) ∧ may1 (u.pos + u.len) r = true := by
  rw [may1] at h
  split at h
  · cases h
  · rename_i h1
    split at h
    · cases h
    · rename_i h2
      refine ⟨by omega, by omega, by omega, by omega, by omega, by omega, ?_, h⟩
      rcases Bool.eq_false_or_eq_true u.old with h3 | h3
      · exact .inl h3
      · right; intro h4; exact h2 (.inr (.inr ⟨h3, h4⟩))
def mark (bs : List Bool) (p : Nat) : Nat → List Bool
  | 0 => bs
  | n + 1 => (mark bs p n).set (p + n) true
theorem mark_length (bs : List Bool) (p : Nat) : ∀ n, (mark bs p n).length = bs.length
  | 0 => rfl
  | n + 1 => by rw [mark, List.length_set, mark_length bs p n]
def used1 (bs : List Bool) : List U → List Bool
  | [] => bs
  | u :: r => used1 (mark bs u.pos.toNat u.len.toNat) r
def none16 : List Bool := List.replicate 16 false
def used (o : Option (List U)) : Option (List Bool) := if may o = true then some (used1 none16 (o.getD [])) else none
theorem used_AC (o : Option (List U)) : ACv Try.prog 28 [uA o] (fun v => v = .a (bA (used o))) := by
  intro L S hL
  refine fn_St (n := 31) (rs := [.tmp 2]) hands_val RdT.ok RdT.mixed Try.func28 rfl (by kernel_rfl) rfl rfl rfl hL ?_
  intro hS
  cases o with
  | none =>
    show awp _ _ _ _ _ (St L 31 [(0, nilS)] S [])
    repeat' (first
        | (with_reducible refine want_none ?_)
        | (with_reducible refine c_seq ?_)
        | (with_reducible refine c_region ?_)
        | (with_reducible refine c_block ?_)
        | (with_reducible refine aops_nil ?_)
        | (with_reducible refine k_normal ?_)
        | (with_reducible refine c_skip ?_)
        | (with_reducible refine c_exit ?_)
        | (with_reducible refine c_ret ?_)
        | (with_reducible refine k_ret ?_)
        | (with_reducible refine k_exit ?_)
        | (with_reducible refine kl_exit ?_)
        | (with_reducible refine kr_exit ?_)
        | (with_reducible refine kb_normal ?_)
        | (with_reducible refine kb_hit ?_)
        | ((with_reducible apply st_callv); exact rfl; exact rfl; exact rfl; exact rfl; exact may_AC none; (rintro v rfl))
        | ((with_reducible apply st_make); exact rfl; exact rfl; exact rfl; exact rfl; exact rfl; exact rfl; decide; exact rfl)
        | ((with_reducible apply st_alloc); exact rfl; exact rfl; exact rfl; exact rfl)
        | ((with_reducible apply st_loadpel); exact rfl; exact rfl; omega; exact rfl; (intro u hu; refine ⟨_, rfl, ?_⟩; try simp only [Int.toNat_natCast] at hu))
        | ((with_reducible apply st_load); exact rfl; exact rfl; exact rfl; exact rfl; exact rfl)
        | ((with_reducible apply st_store); exact rfl; exact rfl; exact rfl; exact rfl; exact rfl; exact rfl)
        | ((with_reducible apply st_idx); exact rfl; exact rfl; exact rfl; exact rfl; exact rfl; omega)
        | ((with_reducible apply st_len RdT.ok); exact rfl; exact rfl; exact rfl; intro hlen)
        | ((with_reducible apply st_lennil RdT.ok); exact rfl; exact rfl; exact rfl)
        | ((with_reducible apply st_add); exact rfl; exact rfl; exact rfl; omega)
        | ((with_reducible apply st_q RdT.ok); exact rfl; exact rfl)
        | ((with_reducible apply c_condT); exact rfl)
        | ((with_reducible apply c_condF); exact rfl)
        | ((with_reducible apply c_cond); exact rfl; (first | exact Bp.not Bp.dec | exact Bp.dec | exact Bp.not Bp.bool | exact Bp.bool); all_goals intro hc))
    refine c_loop0 ?_
    repeat' (first
        | (with_reducible refine want_none ?_)
        | (with_reducible refine c_seq ?_)
        | (with_reducible refine c_region ?_)
        | (with_reducible refine c_block ?_)
        | (with_reducible refine aops_nil ?_)
        | (with_reducible refine k_normal ?_)
        | (with_reducible refine c_skip ?_)
        | (with_reducible refine c_exit ?_)
        | (with_reducible refine c_ret ?_)
        | (with_reducible refine k_ret ?_)
        | (with_reducible refine k_exit ?_)
        | (with_reducible refine kl_exit ?_)
        | (with_reducible refine kr_exit ?_)
        | (with_reducible refine kb_normal ?_)
        | (with_reducible refine kb_hit ?_)
        | ((with_reducible apply st_alloc); exact rfl; exact rfl; exact rfl; exact rfl)
        | ((with_reducible apply st_loadpel); exact rfl; exact rfl; omega; exact rfl; (intro u hu; refine ⟨_, rfl, ?_⟩; try simp only [Int.toNat_natCast] at hu))
        | ((with_reducible apply st_load); exact rfl; exact rfl; exact rfl; exact rfl; exact rfl)
        | ((with_reducible apply st_store); exact rfl; exact rfl; exact rfl; exact rfl; exact rfl; exact rfl)
        | ((with_reducible apply st_idx); exact rfl; exact rfl; exact rfl; exact rfl; exact rfl; omega)
        | ((with_reducible apply st_len RdT.ok); exact rfl; exact rfl; exact rfl; intro hlen)
        | ((with_reducible apply st_lennil RdT.ok); exact rfl; exact rfl; exact rfl)
        | ((with_reducible apply st_add); exact rfl; exact rfl; exact rfl; omega)
        | ((with_reducible apply st_q RdT.ok); exact rfl; exact rfl)
        | ((with_reducible apply c_condT); exact rfl)
        | ((with_reducible apply c_condF); exact rfl)
        | ((with_reducible apply c_cond); exact rfl; (first | exact Bp.not Bp.dec | exact Bp.dec | exact Bp.not Bp.bool | exact Bp.bool); all_goals intro hc))
    (with_reducible apply r_one); exact rfl; exact .tmp rfl .nil; exact .s (.sl rfl rfl); exact hS; refine ⟨rfl, _, rfl, ?_⟩
    rfl
  | some l =>
    show awp _ _ _ _ _ (St L 31 [(0, row 4 (l.map encU))] S [])
    cases hmay : may (some l) with
    | false =>
      repeat' (first
          | (with_reducible refine want_none ?_)
          | (with_reducible refine c_seq ?_)
          | (with_reducible refine c_region ?_)
          | (with_reducible refine c_block ?_)
          | (with_reducible refine aops_nil ?_)
          | (with_reducible refine k_normal ?_)
          | (with_reducible refine c_skip ?_)
          | (with_reducible refine c_exit ?_)
          | (with_reducible refine c_ret ?_)
          | (with_reducible refine k_ret ?_)
          | (with_reducible refine k_exit ?_)
          | (with_reducible refine kl_exit ?_)
          | (with_reducible refine kr_exit ?_)
          | (with_reducible refine kb_normal ?_)
          | (with_reducible refine kb_hit ?_)
          | ((with_reducible apply st_callv); exact rfl; exact rfl; exact rfl; exact rfl; exact may_AC (some l); (rintro v rfl); rw [hmay])
          | ((with_reducible apply st_alloc); exact rfl; exact rfl; exact rfl; exact rfl)
          | ((with_reducible apply st_loadpel); exact rfl; exact rfl; omega; exact rfl; (intro u hu; refine ⟨_, rfl, ?_⟩; try simp only [Int.toNat_natCast] at hu))
          | ((with_reducible apply st_load); exact rfl; exact rfl; exact rfl; exact rfl; exact rfl)
          | ((with_reducible apply st_store); exact rfl; exact rfl; exact rfl; exact rfl; exact rfl; exact rfl)
          | ((with_reducible apply st_idx); exact rfl; exact rfl; exact rfl; exact rfl; exact rfl; omega)
          | ((with_reducible apply st_len RdT.ok); exact rfl; exact rfl; exact rfl; intro hlen)
          | ((with_reducible apply st_lennil RdT.ok); exact rfl; exact rfl; exact rfl)
          | ((with_reducible apply st_add); exact rfl; exact rfl; exact rfl; omega)
          | ((with_reducible apply st_q RdT.ok); exact rfl; exact rfl)
          | ((with_reducible apply c_condT); exact rfl)
          | ((with_reducible apply c_condF); exact rfl)
          | ((with_reducible apply c_cond); exact rfl; (first | exact Bp.not Bp.dec | exact Bp.dec | exact Bp.not Bp.bool | exact Bp.bool); all_goals intro hc))
      ((with_reducible apply r_one); exact rfl; exact .tmp rfl .nil; exact .s (.pv _); exact hS; refine ⟨rfl, _, rfl, ?_⟩)
      rw [used, if_neg (by rw [hmay]; decide)]; rfl
    | true =>
      rw [used, if_pos hmay]
      show awp _ _ _ _ (retQ _ _ (exitVal fun r S' => S' = S ∧ ∃ v, r = .val v ∧ v = row 1 ((used1 none16 l).map encB))) _
      repeat' (first
          | (with_reducible refine want_none ?_)
          | (with_reducible refine c_seq ?_)
          | (with_reducible refine c_region ?_)
          | (with_reducible refine c_block ?_)
          | (with_reducible refine aops_nil ?_)
          | (with_reducible refine k_normal ?_)
          | (with_reducible refine c_skip ?_)
          | (with_reducible refine c_exit ?_)
          | (with_reducible refine c_ret ?_)
          | (with_reducible refine k_ret ?_)
          | (with_reducible refine k_exit ?_)
          | (with_reducible refine kl_exit ?_)
          | (with_reducible refine kr_exit ?_)
          | (with_reducible refine kb_normal ?_)
          | (with_reducible refine kb_hit ?_)
          | ((with_reducible apply st_callv); exact rfl; exact rfl; exact rfl; exact rfl; exact may_AC (some l); (rintro v rfl); rw [hmay])
          | ((with_reducible apply st_make); exact rfl; exact rfl; exact rfl; exact rfl; exact rfl; exact rfl; decide; exact rfl)
          | ((with_reducible apply st_alloc); exact rfl; exact rfl; exact rfl; exact rfl)
          | ((with_reducible apply st_loadpel); exact rfl; exact rfl; omega; exact rfl; (intro u hu; refine ⟨_, rfl, ?_⟩; try simp only [Int.toNat_natCast] at hu))
          | ((with_reducible apply st_load); exact rfl; exact rfl; exact rfl; exact rfl; exact rfl)
          | ((with_reducible apply st_store); exact rfl; exact rfl; exact rfl; exact rfl; exact rfl; exact rfl)
          | ((with_reducible apply st_idx); exact rfl; exact rfl; exact rfl; exact rfl; exact rfl; omega)
          | ((with_reducible apply st_len RdT.ok); exact rfl; exact rfl; exact rfl; intro hlen)
          | ((with_reducible apply st_lennil RdT.ok); exact rfl; exact rfl; exact rfl)
          | ((with_reducible apply st_add); exact rfl; exact rfl; exact rfl; omega)
          | ((with_reducible apply st_q RdT.ok); exact rfl; exact rfl)
          | ((with_reducible apply c_condT); exact rfl)
          | ((with_reducible apply c_condF); exact rfl)
          | ((with_reducible apply c_cond); exact rfl; (first | exact Bp.not Bp.dec | exact Bp.dec | exact Bp.not Bp.bool | exact Bp.bool); all_goals intro hc))
      refine c_loop (β := Nat × Int × List Bool) (fun b => b.1 ≤ l.length ∧ b.2.2.length = 16 ∧ 0 ≤ b.2.1 ∧ may1 b.2.1 (l.drop b.1) = true ∧ used1 none16 l = used1 b.2.2 (l.drop b.1)) (fun b => l.length - b.1)
        (fun b => [(3, .a (.s (.sl L 10 0 16))), (11, row 4 (l.map encU)), (12, int l.length), (13, int b.1)]) (fun b => [(10, .row 4 1 (b.2.2.map encB))]) (0, 0, none16) ⟨Nat.zero_le _, rfl, Int.le_refl _, hmay, rfl⟩ ⟨rfl, rfl, rfl, rfl, trivial⟩ ⟨rfl, trivial⟩ rfl rfl ?_
      rintro ⟨k, e, bs⟩ ⟨hk, hbs, he, hm, hu1⟩
      dsimp only at hk hbs he hm hu1 ⊢
      have hq : ∀ u, l[k]? = some u → 1 ≤ u.len ∧ u.len ≤ 8 ∧ e ≤ u.pos ∧ u.pos ≤ 16 - u.len ∧ 0 ≤ u.count ∧ u.count ≤ 1000000 ∧ (u.old = true ∨ u.count ≠ 0) ∧ may1 (u.pos + u.len) (l.drop (k + 1)) = true := fun u hu => by
        rw [drop_cons hu] at hm
        exact may1_cons hm
      repeat' (first
          | (with_reducible refine want_none ?_)
          | (with_reducible refine c_seq ?_)
          | (with_reducible refine c_region ?_)
          | (with_reducible refine c_block ?_)
          | (with_reducible refine aops_nil ?_)
          | (with_reducible refine k_normal ?_)
          | (with_reducible refine c_skip ?_)
          | (with_reducible refine c_exit ?_)
          | (with_reducible refine c_ret ?_)
          | (with_reducible refine k_ret ?_)
          | (with_reducible refine k_exit ?_)
          | (with_reducible refine kl_exit ?_)
          | (with_reducible refine kr_exit ?_)
          | (with_reducible refine kb_normal ?_)
          | (with_reducible refine kb_hit ?_)
          | ((with_reducible apply st_loadpel); exact rfl; exact rfl; omega; exact rfl; (intro u hu; refine ⟨_, rfl, ?_⟩; simp only [Int.toNat_natCast] at hu; obtain ⟨q1, q2, q3, q4, q5, q6, q7, q8⟩ := hq u hu))
          | ((with_reducible apply st_alloc); exact rfl; exact rfl; exact rfl; exact rfl)
          | ((with_reducible apply st_loadpel); exact rfl; exact rfl; omega; exact rfl; (intro u hu; refine ⟨_, rfl, ?_⟩; try simp only [Int.toNat_natCast] at hu))
          | ((with_reducible apply st_load); exact rfl; exact rfl; exact rfl; exact rfl; exact rfl)
          | ((with_reducible apply st_store); exact rfl; exact rfl; exact rfl; exact rfl; exact rfl; exact rfl)
          | ((with_reducible apply st_idx); exact rfl; exact rfl; exact rfl; exact rfl; exact rfl; omega)
          | ((with_reducible apply st_len RdT.ok); exact rfl; exact rfl; exact rfl; intro hlen)
          | ((with_reducible apply st_lennil RdT.ok); exact rfl; exact rfl; exact rfl)
          | ((with_reducible apply st_add); exact rfl; exact rfl; exact rfl; omega)
          | ((with_reducible apply st_q RdT.ok); exact rfl; exact rfl)
          | ((with_reducible apply c_condT); exact rfl)
          | ((with_reducible apply c_condF); exact rfl)
          | ((with_reducible apply c_cond); exact rfl; (first | exact Bp.not Bp.dec | exact Bp.dec | exact Bp.not Bp.bool | exact Bp.bool); all_goals intro hc))
      · refine c_loop (β := Nat) (fun j => (j : Int) ≤ u.len) (fun j => u.len.toNat - j)
          (fun j => [(3, .a (.s (.sl L 10 0 16))), (5, .a (.s (.pb L 5 0))), (11, row 4 (l.map encU)), (12, int l.length), (13, int k), (18, int u.len), (19, int j)])
          (fun j => [(5, .box 41 ((encU u).map .pv)), (10, .row 4 1 ((mark bs u.pos.toNat j).map encB))]) 0 (by simp; omega) ⟨rfl, rfl, rfl, rfl, rfl, rfl, rfl, trivial⟩ ⟨rfl, rfl, trivial⟩ rfl rfl ?_
        rintro j hj
        have hml : (mark bs u.pos.toNat j).length = 16 := by rw [mark_length, hbs]
        repeat' (first
            | (with_reducible refine want_none ?_)
            | (with_reducible refine c_seq ?_)
            | (with_reducible refine c_region ?_)
            | (with_reducible refine c_block ?_)
            | (with_reducible refine aops_nil ?_)
            | (with_reducible refine k_normal ?_)
            | (with_reducible refine c_skip ?_)
            | (with_reducible refine c_exit ?_)
            | (with_reducible refine c_ret ?_)
            | (with_reducible refine k_ret ?_)
            | (with_reducible refine k_exit ?_)
            | (with_reducible refine kl_exit ?_)
            | (with_reducible refine kr_exit ?_)
            | (with_reducible refine kb_normal ?_)
            | (with_reducible refine kb_hit ?_)
            | ((with_reducible apply st_idxown); exact rfl; exact rfl; exact rfl; exact rfl; exact rfl; exact rfl; omega)
            | ((with_reducible apply st_storeprU); exact rfl; exact rfl; exact rfl; exact rfl; exact rfl; exact rfl; omega; (intro b hb; refine ⟨true, _, rfl, rfl, rfl, ?_⟩))
            | ((with_reducible apply st_alloc); exact rfl; exact rfl; exact rfl; exact rfl)
            | ((with_reducible apply st_loadpel); exact rfl; exact rfl; omega; exact rfl; (intro u hu; refine ⟨_, rfl, ?_⟩; try simp only [Int.toNat_natCast] at hu))
            | ((with_reducible apply st_load); exact rfl; exact rfl; exact rfl; exact rfl; exact rfl)
            | ((with_reducible apply st_store); exact rfl; exact rfl; exact rfl; exact rfl; exact rfl; exact rfl)
            | ((with_reducible apply st_idx); exact rfl; exact rfl; exact rfl; exact rfl; exact rfl; omega)
            | ((with_reducible apply st_len RdT.ok); exact rfl; exact rfl; exact rfl; intro hlen)
            | ((with_reducible apply st_lennil RdT.ok); exact rfl; exact rfl; exact rfl)
            | ((with_reducible apply st_add); exact rfl; exact rfl; exact rfl; omega)
            | ((with_reducible apply st_q RdT.ok); exact rfl; exact rfl)
            | ((with_reducible apply c_condT); exact rfl)
            | ((with_reducible apply c_condF); exact rfl)
            | ((with_reducible apply c_cond); exact rfl; (first | exact Bp.not Bp.dec | exact Bp.dec | exact Bp.not Bp.bool | exact Bp.bool); all_goals intro hc))
        · (with_reducible refine k_back (j + 1) ?_ ?_ ?_ ?_ ?_ ?_)
          · show ((j + 1 : Nat) : Int) ≤ u.len
            omega
          · show u.len.toNat - (j + 1) < u.len.toNat - j
            omega
          · exact ⟨rfl, rfl, rfl, rfl, rfl, rfl, rfl, trivial⟩
          · refine ⟨rfl, ?_, trivial⟩
            rw [mark, show u.pos.toNat + j = (u.pos + (j : Int)).toNat by omega]
            rfl
          · exact rfl
          · exact rfl
        · (with_reducible refine k_back (k + 1, u.pos + u.len, mark bs u.pos.toNat u.len.toNat) ?_ ?_ ?_ ?_ ?_ ?_)
          · refine ⟨by dsimp only; omega, by dsimp only; rw [mark_length, hbs], by dsimp only; omega, q8, ?_⟩
            rw [hu1, drop_cons hu, used1]
          · dsimp only; omega
          · exact ⟨rfl, rfl, rfl, rfl, trivial⟩
          · refine ⟨?_, trivial⟩
            dsimp only
            rw [show u.len.toNat = j by omega]
            rfl
          · exact rfl
          · exact rfl
      · (with_reducible apply r_one); exact rfl; exact .tmp rfl .nil; exact .s (.sl rfl (by rw [List.length_map, hbs])); exact hS; refine ⟨rfl, _, rfl, ?_⟩
        rw [hu1, List.drop_of_length_le (by omega)]; rfl
end Go.Proofs.Ytfdaioinghfjpaa

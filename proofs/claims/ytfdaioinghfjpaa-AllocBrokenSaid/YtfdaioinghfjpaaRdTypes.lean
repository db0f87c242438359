/- RD, part 21: the types of this seat. PRINTED by wip/gen/mktab.py out of the seat's translation. -/
import Derived.Test.YtfdaioinghfjpaaRdTab
import Derived.Test.YtfdaioinghfjpaaRows
import Derived.KernelRfl
namespace Go.Proofs.Ytfdaioinghfjpaa
open Go.Rd
namespace RdT
def i1 : TI := ⟨.other, false, 1, 8, [.nilFunc]⟩
def i2 : TI := ⟨.int .i64, false, 1, 8, [.int .i64 0]⟩
def i3 : TI := ⟨.int .i64, false, 1, 8, [.int .i64 0]⟩
def i4 : TI := ⟨.bool, false, 1, 1, [.bool false]⟩
def i5 : TI := ⟨.int .u8, false, 1, 1, [.int .u8 0]⟩
def i9 : TI := ⟨.str, false, 1, 16, [.string .empty]⟩
def i12 : TI := ⟨.int .u64, false, 1, 8, [.int .u64 0]⟩
def i17 : TI := ⟨.other, false, 1, 8, [.pointer none]⟩
def i20 : TI := ⟨.other, false, 1, 16, [.nilIface]⟩
def i21 : TI := ⟨.int .i32, false, 1, 4, [.int .i32 0]⟩
def i22 : TI := ⟨.slice 41, false, 1, 24, [.slice none 0 0]⟩
def i23 : TI := ⟨.other, false, 1, 8, [.nilFunc]⟩
def i25 : TI := ⟨.other, false, 1, 8, [.nilFunc]⟩
def i27 : TI := ⟨.other, false, 1, 8, [.nilFunc]⟩
def i28 : TI := ⟨.other, false, 1, 8, [.nilFunc]⟩
def i29 : TI := ⟨.other, false, 1, 8, [.nilFunc]⟩
def i30 : TI := ⟨.slice 4, false, 1, 24, [.slice none 0 0]⟩
def i31 : TI := ⟨.other, false, 1, 8, [.nilFunc]⟩
def i32 : TI := ⟨.other, false, 1, 8, [.nilFunc]⟩
def i33 : TI := ⟨.other, false, 1, 8, [.nilFunc]⟩
def i34 : TI := ⟨.other, false, 1, 8, [.nilFunc]⟩
def i35 : TI := ⟨.other, false, 1, 8, [.nilFunc]⟩
def i36 : TI := ⟨.slice 38, false, 1, 24, [.slice none 0 0]⟩
def i37 : TI := ⟨.struct [(0, 3), (1, 3)], true, 2, 16, [.int .i64 0, .int .i64 0]⟩
def i38 : TI := ⟨.struct [(0, 3), (1, 3)], true, 2, 16, [.int .i64 0, .int .i64 0]⟩
def i39 : TI := ⟨.other, false, 1, 8, [.nilFunc]⟩
def i40 : TI := ⟨.struct [(0, 3), (1, 3), (2, 3), (3, 4)], true, 4, 32, [.int .i64 0, .int .i64 0, .int .i64 0, .bool false]⟩
def i41 : TI := ⟨.struct [(0, 3), (1, 3), (2, 3), (3, 4)], true, 4, 32, [.int .i64 0, .int .i64 0, .int .i64 0, .bool false]⟩
def i42 : TI := ⟨.other, false, 1, 8, [.nilFunc]⟩
def i43 : TI := ⟨.other, false, 1, 8, [.nilFunc]⟩
def i44 : TI := ⟨.other, false, 1, 8, [.nilFunc]⟩
def i45 : TI := ⟨.other, false, 1, 8, [.nilFunc]⟩
def i46 : TI := ⟨.slice 22, false, 1, 24, [.slice none 0 0]⟩
def i47 : TI := ⟨.struct [(0, 3), (1, 3)], true, 2, 16, [.int .i64 0, .int .i64 0]⟩
def i48 : TI := ⟨.struct [(0, 3), (1, 3)], true, 2, 16, [.int .i64 0, .int .i64 0]⟩
def i49 : TI := ⟨.other, false, 1, 8, [.nilFunc]⟩
def i51 : TI := ⟨.other, false, 1, 8, [.nilFunc]⟩
def i52 : TI := ⟨.struct [(0, 3), (1, 3), (2, 3), (3, 4)], true, 4, 32, [.int .i64 0, .int .i64 0, .int .i64 0, .bool false]⟩
def i53 : TI := ⟨.struct [(0, 3), (1, 3), (2, 3), (3, 4)], true, 4, 32, [.int .i64 0, .int .i64 0, .int .i64 0, .bool false]⟩
def i55 : TI := ⟨.other, false, 1, 8, [.nilFunc]⟩
def i57 : TI := ⟨.other, false, 1, 8, [.nilFunc]⟩
def i58 : TI := ⟨.other, false, 1, 8, [.nilFunc]⟩
def i59 : TI := ⟨.other, false, 1, 8, [.nilFunc]⟩
def i60 : TI := ⟨.other, false, 1, 8, [.nilFunc]⟩
def i62 : TI := ⟨.other, false, 1, 8, [.nilFunc]⟩
def i63 : TI := ⟨.other, false, 1, 8, [.nilFunc]⟩
def i64 : TI := ⟨.other, false, 1, 8, [.nilFunc]⟩
def i65 : TI := ⟨.other, false, 1, 8, [.nilFunc]⟩
def i66 : TI := ⟨.slice 3, false, 1, 24, [.slice none 0 0]⟩
def i67 : TI := ⟨.slice 69, false, 1, 24, [.slice none 0 0]⟩
def i68 : TI := ⟨.struct [(0, 66), (1, 66), (2, 67)], true, 3, 72, [.slice none 0 0, .slice none 0 0, .slice none 0 0]⟩
def i69 : TI := ⟨.struct [(0, 66), (1, 66), (2, 67)], true, 3, 72, [.slice none 0 0, .slice none 0 0, .slice none 0 0]⟩
def i70 : TI := ⟨.struct [(0, 3), (1, 3), (2, 3)], true, 3, 24, [.int .i64 0, .int .i64 0, .int .i64 0]⟩
def i71 : TI := ⟨.struct [(0, 3), (1, 3), (2, 3)], true, 3, 24, [.int .i64 0, .int .i64 0, .int .i64 0]⟩
def i72 : TI := ⟨.other, false, 1, 8, [.nilFunc]⟩
def i74 : TI := ⟨.other, false, 1, 8, [.nilFunc]⟩
def i75 : TI := ⟨.slice 94, false, 1, 24, [.slice none 0 0]⟩
def i76 : TI := ⟨.other, false, 1, 8, [.nilFunc]⟩
def i77 : TI := ⟨.other, false, 1, 8, [.nilFunc]⟩
def i78 : TI := ⟨.other, false, 1, 8, [.nilFunc]⟩
def i79 : TI := ⟨.other, false, 1, 8, [.nilFunc]⟩
def i80 : TI := ⟨.other, false, 1, 8, [.nilFunc]⟩
def i81 : TI := ⟨.other, false, 1, 8, [.nilFunc]⟩
def i82 : TI := ⟨.other, false, 1, 8, [.nilFunc]⟩
def i83 : TI := ⟨.other, false, 1, 8, [.nilFunc]⟩
def i84 : TI := ⟨.slice 86, false, 1, 24, [.slice none 0 0]⟩
def i85 : TI := ⟨.struct [(0, 3), (1, 3), (2, 4)], true, 3, 24, [.int .i64 0, .int .i64 0, .bool false]⟩
def i86 : TI := ⟨.struct [(0, 3), (1, 3), (2, 4)], true, 3, 24, [.int .i64 0, .int .i64 0, .bool false]⟩
def i88 : TI := ⟨.other, false, 1, 8, [.nilFunc]⟩
def i89 : TI := ⟨.other, false, 1, 8, [.nilFunc]⟩
def i90 : TI := ⟨.other, false, 1, 8, [.nilFunc]⟩
def i91 : TI := ⟨.other, false, 1, 8, [.nilFunc]⟩
def i92 : TI := ⟨.other, false, 1, 8, [.nilFunc]⟩
def i93 : TI := ⟨.struct [(0, 3), (1, 3)], true, 2, 16, [.int .i64 0, .int .i64 0]⟩
def i94 : TI := ⟨.struct [(0, 3), (1, 3)], true, 2, 16, [.int .i64 0, .int .i64 0]⟩
def i95 : TI := ⟨.other, false, 1, 8, [.nilFunc]⟩
def i96 : TI := ⟨.other, false, 1, 8, [.nilFunc]⟩
def i97 : TI := ⟨.other, false, 1, 8, [.nilFunc]⟩
def i98 : TI := ⟨.other, false, 1, 8, [.nilFunc]⟩
def i99 : TI := ⟨.other, false, 1, 8, [.nilFunc]⟩
def i100 : TI := ⟨.other, false, 1, 8, [.nilFunc]⟩
def i101 : TI := ⟨.other, false, 1, 8, [.nilFunc]⟩
def i102 : TI := ⟨.other, false, 1, 8, [.nilFunc]⟩
def i103 : TI := ⟨.other, false, 1, 8, [.nilFunc]⟩
def i104 : TI := ⟨.other, false, 1, 8, [.nilFunc]⟩
def i105 : TI := ⟨.slice 30, false, 1, 24, [.slice none 0 0]⟩
def i106 : TI := ⟨.other, false, 1, 8, [.nilFunc]⟩
def i107 : TI := ⟨.other, false, 1, 8, [.nilFunc]⟩
def i108 : TI := ⟨.other, false, 1, 8, [.nilFunc]⟩
def i109 : TI := ⟨.other, false, 1, 8, [.nilFunc]⟩
def i110 : TI := ⟨.other, false, 1, 8, [.nilFunc]⟩
def i111 : TI := ⟨.other, false, 1, 8, [.nilFunc]⟩
def i112 : TI := ⟨.other, false, 1, 8, [.nilFunc]⟩
def i113 : TI := ⟨.other, false, 1, 8, [.nilFunc]⟩
def i114 : TI := ⟨.other, false, 1, 8, [.nilFunc]⟩
def i115 : TI := ⟨.other, false, 1, 8, [.nilFunc]⟩
def i116 : TI := ⟨.other, false, 1, 8, [.nilFunc]⟩
def i117 : TI := ⟨.other, false, 1, 8, [.nilFunc]⟩
def i118 : TI := ⟨.other, false, 1, 8, [.nilFunc]⟩
def i119 : TI := ⟨.other, false, 1, 8, [.nilFunc]⟩
def i120 : TI := ⟨.other, false, 1, 8, [.nilFunc]⟩
def i121 : TI := ⟨.other, false, 1, 8, [.nilFunc]⟩
def i122 : TI := ⟨.other, false, 1, 8, [.nilFunc]⟩
def i123 : TI := ⟨.int .u64, false, 1, 8, [.int .u64 0]⟩
def i124 : TI := ⟨.other, false, 1, 8, [.nilFunc]⟩
def i125 : TI := ⟨.other, false, 1, 8, [.nilFunc]⟩
def i126 : TI := ⟨.other, false, 1, 8, [.nilFunc]⟩
def i127 : TI := ⟨.other, false, 1, 8, [.nilFunc]⟩
def i128 : TI := ⟨.other, false, 1, 8, [.nilFunc]⟩
def i129 : TI := ⟨.other, false, 1, 8, [.nilFunc]⟩
def i130 : TI := ⟨.other, false, 1, 8, [.nilFunc]⟩
def i131 : TI := ⟨.other, false, 1, 8, [.nilFunc]⟩
def i132 : TI := ⟨.int .u64, false, 1, 8, [.int .u64 0]⟩
def i133 : TI := ⟨.other, false, 1, 8, [.nilFunc]⟩
def i134 : TI := ⟨.other, false, 1, 8, [.nilFunc]⟩
def i135 : TI := ⟨.other, false, 1, 8, [.nilFunc]⟩
def i136 : TI := ⟨.other, false, 1, 8, [.nilFunc]⟩
def i137 : TI := ⟨.other, false, 1, 8, [.nilFunc]⟩
def i138 : TI := ⟨.other, false, 1, 8, [.nilFunc]⟩
def i139 : TI := ⟨.other, false, 1, 8, [.nilFunc]⟩
def i140 : TI := ⟨.other, false, 1, 8, [.nilFunc]⟩
def i141 : TI := ⟨.other, false, 1, 8, [.nilFunc]⟩
def i142 : TI := ⟨.other, false, 1, 8, [.nilFunc]⟩
def i143 : TI := ⟨.other, false, 1, 8, [.nilFunc]⟩
def i144 : TI := ⟨.other, false, 1, 8, [.nilFunc]⟩
def i145 : TI := ⟨.other, false, 1, 8, [.nilFunc]⟩
def i146 : TI := ⟨.other, false, 1, 8, [.nilFunc]⟩
def i147 : TI := ⟨.other, false, 1, 8, [.nilFunc]⟩
def i148 : TI := ⟨.other, false, 1, 8, [.nilFunc]⟩
def i149 : TI := ⟨.slice 66, false, 1, 24, [.slice none 0 0]⟩
def i150 : TI := ⟨.other, false, 1, 8, [.nilFunc]⟩
def i151 : TI := ⟨.slice 67, false, 1, 24, [.slice none 0 0]⟩
def i152 : TI := ⟨.other, false, 1, 8, [.nilFunc]⟩
def i153 : TI := ⟨.other, false, 1, 8, [.pointer none]⟩
def i154 : TI := ⟨.other, false, 1, 8, [.nilFunc]⟩
def i155 : TI := ⟨.other, false, 1, 8, [.nilFunc]⟩
def i156 : TI := ⟨.other, false, 1, 8, [.nilFunc]⟩
def i162 : TI := ⟨.other, false, 1, 8, [.nilFunc]⟩
def i163 : TI := ⟨.int .u32, false, 1, 4, [.int .u32 0]⟩
def i166 : TI := ⟨.other, false, 1, 8, [.nilFunc]⟩
def i167 : TI := ⟨.other, false, 1, 8, [.pointer none]⟩
def i170 : TI := ⟨.struct [(0, 12), (1, 12), (2, 163), (3, 164), (4, 5), (5, 5), (6, 165), (7, 166), (8, 167), (9, 168), (10, 169)], true, 11, 48, [.int .u64 0, .int .u64 0, .int .u32 0, .int .u8 0, .int .u8 0, .int .u8 0, .int .u8 0, .nilFunc, .pointer none, .int .i32 0, .int .i32 0]⟩
def T : TypeId → Option TI := tlook [(1, i1), (2, i2), (3, i3), (4, i4), (5, i5), (9, i9), (12, i12), (17, i17), (20, i20), (21, i21), (22, i22), (23, i23), (25, i25), (27, i27), (28, i28), (29, i29), (30, i30), (31, i31), (32, i32), (33, i33), (34, i34), (35, i35), (36, i36), (37, i37), (38, i38), (39, i39), (40, i40), (41, i41), (42, i42), (43, i43), (44, i44), (45, i45), (46, i46), (47, i47), (48, i48), (49, i49), (51, i51), (52, i52), (53, i53), (55, i55), (57, i57), (58, i58), (59, i59), (60, i60), (62, i62), (63, i63), (64, i64), (65, i65), (66, i66), (67, i67), (68, i68), (69, i69), (70, i70), (71, i71), (72, i72), (74, i74), (75, i75), (76, i76), (77, i77), (78, i78), (79, i79), (80, i80), (81, i81), (82, i82), (83, i83), (84, i84), (85, i85), (86, i86), (88, i88), (89, i89), (90, i90), (91, i91), (92, i92), (93, i93), (94, i94), (95, i95), (96, i96), (97, i97), (98, i98), (99, i99), (100, i100), (101, i101), (102, i102), (103, i103), (104, i104), (105, i105), (106, i106), (107, i107), (108, i108), (109, i109), (110, i110), (111, i111), (112, i112), (113, i113), (114, i114), (115, i115), (116, i116), (117, i117), (118, i118), (119, i119), (120, i120), (121, i121), (122, i122), (123, i123), (124, i124), (125, i125), (126, i126), (127, i127), (128, i128), (129, i129), (130, i130), (131, i131), (132, i132), (133, i133), (134, i134), (135, i135), (136, i136), (137, i137), (138, i138), (139, i139), (140, i140), (141, i141), (142, i142), (143, i143), (144, i144), (145, i145), (146, i146), (147, i147), (148, i148), (149, i149), (150, i150), (151, i151), (152, i152), (153, i153), (154, i154), (155, i155), (156, i156), (162, i162), (163, i163), (166, i166), (167, i167), (170, i170)]
theorem k1 : i1.ok Try.prog 1 := ti_ok (by kernel_rfl) rfl rfl (other_ok (by kernel_rfl)) (by decide)
theorem k2 : i2.ok Try.prog 2 := ti_ok (by kernel_rfl) rfl rfl (⟨by kernel_rfl, rfl⟩) (by decide)
theorem k3 : i3.ok Try.prog 3 := ti_ok (by kernel_rfl) rfl rfl (⟨by kernel_rfl, rfl⟩) (by decide)
theorem k4 : i4.ok Try.prog 4 := ti_ok (by kernel_rfl) rfl rfl (⟨by kernel_rfl, rfl⟩) (by decide)
theorem k5 : i5.ok Try.prog 5 := ti_ok (by kernel_rfl) rfl rfl (⟨by kernel_rfl, rfl⟩) (by decide)
theorem k9 : i9.ok Try.prog 9 := ti_ok (by kernel_rfl) rfl rfl (⟨by kernel_rfl, rfl⟩) (by decide)
theorem k12 : i12.ok Try.prog 12 := ti_ok (by kernel_rfl) rfl rfl (⟨by kernel_rfl, rfl⟩) (by decide)
theorem k17 : i17.ok Try.prog 17 := ti_ok (by kernel_rfl) rfl rfl (other_ok (by kernel_rfl)) (by decide)
theorem k20 : i20.ok Try.prog 20 := ti_ok (by kernel_rfl) rfl rfl (other_ok (by kernel_rfl)) (by decide)
theorem k21 : i21.ok Try.prog 21 := ti_ok (by kernel_rfl) rfl rfl (⟨by kernel_rfl, rfl⟩) (by decide)
theorem k22 : i22.ok Try.prog 22 := ti_ok (by kernel_rfl) rfl rfl (⟨by kernel_rfl, rfl⟩) (by decide)
theorem k23 : i23.ok Try.prog 23 := ti_ok (by kernel_rfl) rfl rfl (other_ok (by kernel_rfl)) (by decide)
theorem k25 : i25.ok Try.prog 25 := ti_ok (by kernel_rfl) rfl rfl (other_ok (by kernel_rfl)) (by decide)
theorem k27 : i27.ok Try.prog 27 := ti_ok (by kernel_rfl) rfl rfl (other_ok (by kernel_rfl)) (by decide)
theorem k28 : i28.ok Try.prog 28 := ti_ok (by kernel_rfl) rfl rfl (other_ok (by kernel_rfl)) (by decide)
theorem k29 : i29.ok Try.prog 29 := ti_ok (by kernel_rfl) rfl rfl (other_ok (by kernel_rfl)) (by decide)
theorem k30 : i30.ok Try.prog 30 := ti_ok (by kernel_rfl) rfl rfl (⟨by kernel_rfl, rfl⟩) (by decide)
theorem k31 : i31.ok Try.prog 31 := ti_ok (by kernel_rfl) rfl rfl (other_ok (by kernel_rfl)) (by decide)
theorem k32 : i32.ok Try.prog 32 := ti_ok (by kernel_rfl) rfl rfl (other_ok (by kernel_rfl)) (by decide)
theorem k33 : i33.ok Try.prog 33 := ti_ok (by kernel_rfl) rfl rfl (other_ok (by kernel_rfl)) (by decide)
theorem k34 : i34.ok Try.prog 34 := ti_ok (by kernel_rfl) rfl rfl (other_ok (by kernel_rfl)) (by decide)
theorem k35 : i35.ok Try.prog 35 := ti_ok (by kernel_rfl) rfl rfl (other_ok (by kernel_rfl)) (by decide)
theorem k36 : i36.ok Try.prog 36 := ti_ok (by kernel_rfl) rfl rfl (⟨by kernel_rfl, rfl⟩) (by decide)
theorem k37 : i37.ok Try.prog 37 := ti_ok (by kernel_rfl) rfl rfl (struct_ok (by kernel_rfl)) (by decide)
theorem k38 : i38.ok Try.prog 38 := ti_ok (by kernel_rfl) rfl rfl (struct_ok (by kernel_rfl)) (by decide)
theorem k39 : i39.ok Try.prog 39 := ti_ok (by kernel_rfl) rfl rfl (other_ok (by kernel_rfl)) (by decide)
theorem k40 : i40.ok Try.prog 40 := ti_ok (by kernel_rfl) rfl rfl (struct_ok (by kernel_rfl)) (by decide)
theorem k41 : i41.ok Try.prog 41 := ti_ok (by kernel_rfl) rfl rfl (struct_ok (by kernel_rfl)) (by decide)
theorem k42 : i42.ok Try.prog 42 := ti_ok (by kernel_rfl) rfl rfl (other_ok (by kernel_rfl)) (by decide)
theorem k43 : i43.ok Try.prog 43 := ti_ok (by kernel_rfl) rfl rfl (other_ok (by kernel_rfl)) (by decide)
theorem k44 : i44.ok Try.prog 44 := ti_ok (by kernel_rfl) rfl rfl (other_ok (by kernel_rfl)) (by decide)
theorem k45 : i45.ok Try.prog 45 := ti_ok (by kernel_rfl) rfl rfl (other_ok (by kernel_rfl)) (by decide)
theorem k46 : i46.ok Try.prog 46 := ti_ok (by kernel_rfl) rfl rfl (⟨by kernel_rfl, rfl⟩) (by decide)
theorem k47 : i47.ok Try.prog 47 := ti_ok (by kernel_rfl) rfl rfl (struct_ok (by kernel_rfl)) (by decide)
theorem k48 : i48.ok Try.prog 48 := ti_ok (by kernel_rfl) rfl rfl (struct_ok (by kernel_rfl)) (by decide)
theorem k49 : i49.ok Try.prog 49 := ti_ok (by kernel_rfl) rfl rfl (other_ok (by kernel_rfl)) (by decide)
theorem k51 : i51.ok Try.prog 51 := ti_ok (by kernel_rfl) rfl rfl (other_ok (by kernel_rfl)) (by decide)
theorem k52 : i52.ok Try.prog 52 := ti_ok (by kernel_rfl) rfl rfl (struct_ok (by kernel_rfl)) (by decide)
theorem k53 : i53.ok Try.prog 53 := ti_ok (by kernel_rfl) rfl rfl (struct_ok (by kernel_rfl)) (by decide)
theorem k55 : i55.ok Try.prog 55 := ti_ok (by kernel_rfl) rfl rfl (other_ok (by kernel_rfl)) (by decide)
theorem k57 : i57.ok Try.prog 57 := ti_ok (by kernel_rfl) rfl rfl (other_ok (by kernel_rfl)) (by decide)
theorem k58 : i58.ok Try.prog 58 := ti_ok (by kernel_rfl) rfl rfl (other_ok (by kernel_rfl)) (by decide)
theorem k59 : i59.ok Try.prog 59 := ti_ok (by kernel_rfl) rfl rfl (other_ok (by kernel_rfl)) (by decide)
theorem k60 : i60.ok Try.prog 60 := ti_ok (by kernel_rfl) rfl rfl (other_ok (by kernel_rfl)) (by decide)
theorem k62 : i62.ok Try.prog 62 := ti_ok (by kernel_rfl) rfl rfl (other_ok (by kernel_rfl)) (by decide)
theorem k63 : i63.ok Try.prog 63 := ti_ok (by kernel_rfl) rfl rfl (other_ok (by kernel_rfl)) (by decide)
theorem k64 : i64.ok Try.prog 64 := ti_ok (by kernel_rfl) rfl rfl (other_ok (by kernel_rfl)) (by decide)
theorem k65 : i65.ok Try.prog 65 := ti_ok (by kernel_rfl) rfl rfl (other_ok (by kernel_rfl)) (by decide)
theorem k66 : i66.ok Try.prog 66 := ti_ok (by kernel_rfl) rfl rfl (⟨by kernel_rfl, rfl⟩) (by decide)
theorem k67 : i67.ok Try.prog 67 := ti_ok (by kernel_rfl) rfl rfl (⟨by kernel_rfl, rfl⟩) (by decide)
theorem k68 : i68.ok Try.prog 68 := ti_ok (by kernel_rfl) rfl rfl (struct_ok (by kernel_rfl)) (by decide)
theorem k69 : i69.ok Try.prog 69 := ti_ok (by kernel_rfl) rfl rfl (struct_ok (by kernel_rfl)) (by decide)
theorem k70 : i70.ok Try.prog 70 := ti_ok (by kernel_rfl) rfl rfl (struct_ok (by kernel_rfl)) (by decide)
theorem k71 : i71.ok Try.prog 71 := ti_ok (by kernel_rfl) rfl rfl (struct_ok (by kernel_rfl)) (by decide)
theorem k72 : i72.ok Try.prog 72 := ti_ok (by kernel_rfl) rfl rfl (other_ok (by kernel_rfl)) (by decide)
theorem k74 : i74.ok Try.prog 74 := ti_ok (by kernel_rfl) rfl rfl (other_ok (by kernel_rfl)) (by decide)
theorem k75 : i75.ok Try.prog 75 := ti_ok (by kernel_rfl) rfl rfl (⟨by kernel_rfl, rfl⟩) (by decide)
theorem k76 : i76.ok Try.prog 76 := ti_ok (by kernel_rfl) rfl rfl (other_ok (by kernel_rfl)) (by decide)
theorem k77 : i77.ok Try.prog 77 := ti_ok (by kernel_rfl) rfl rfl (other_ok (by kernel_rfl)) (by decide)
theorem k78 : i78.ok Try.prog 78 := ti_ok (by kernel_rfl) rfl rfl (other_ok (by kernel_rfl)) (by decide)
theorem k79 : i79.ok Try.prog 79 := ti_ok (by kernel_rfl) rfl rfl (other_ok (by kernel_rfl)) (by decide)
theorem k80 : i80.ok Try.prog 80 := ti_ok (by kernel_rfl) rfl rfl (other_ok (by kernel_rfl)) (by decide)
theorem k81 : i81.ok Try.prog 81 := ti_ok (by kernel_rfl) rfl rfl (other_ok (by kernel_rfl)) (by decide)
theorem k82 : i82.ok Try.prog 82 := ti_ok (by kernel_rfl) rfl rfl (other_ok (by kernel_rfl)) (by decide)
theorem k83 : i83.ok Try.prog 83 := ti_ok (by kernel_rfl) rfl rfl (other_ok (by kernel_rfl)) (by decide)
theorem k84 : i84.ok Try.prog 84 := ti_ok (by kernel_rfl) rfl rfl (⟨by kernel_rfl, rfl⟩) (by decide)
theorem k85 : i85.ok Try.prog 85 := ti_ok (by kernel_rfl) rfl rfl (struct_ok (by kernel_rfl)) (by decide)
theorem k86 : i86.ok Try.prog 86 := ti_ok (by kernel_rfl) rfl rfl (struct_ok (by kernel_rfl)) (by decide)
theorem k88 : i88.ok Try.prog 88 := ti_ok (by kernel_rfl) rfl rfl (other_ok (by kernel_rfl)) (by decide)
theorem k89 : i89.ok Try.prog 89 := ti_ok (by kernel_rfl) rfl rfl (other_ok (by kernel_rfl)) (by decide)
theorem k90 : i90.ok Try.prog 90 := ti_ok (by kernel_rfl) rfl rfl (other_ok (by kernel_rfl)) (by decide)
theorem k91 : i91.ok Try.prog 91 := ti_ok (by kernel_rfl) rfl rfl (other_ok (by kernel_rfl)) (by decide)
theorem k92 : i92.ok Try.prog 92 := ti_ok (by kernel_rfl) rfl rfl (other_ok (by kernel_rfl)) (by decide)
theorem k93 : i93.ok Try.prog 93 := ti_ok (by kernel_rfl) rfl rfl (struct_ok (by kernel_rfl)) (by decide)
theorem k94 : i94.ok Try.prog 94 := ti_ok (by kernel_rfl) rfl rfl (struct_ok (by kernel_rfl)) (by decide)
theorem k95 : i95.ok Try.prog 95 := ti_ok (by kernel_rfl) rfl rfl (other_ok (by kernel_rfl)) (by decide)
theorem k96 : i96.ok Try.prog 96 := ti_ok (by kernel_rfl) rfl rfl (other_ok (by kernel_rfl)) (by decide)
theorem k97 : i97.ok Try.prog 97 := ti_ok (by kernel_rfl) rfl rfl (other_ok (by kernel_rfl)) (by decide)
theorem k98 : i98.ok Try.prog 98 := ti_ok (by kernel_rfl) rfl rfl (other_ok (by kernel_rfl)) (by decide)
theorem k99 : i99.ok Try.prog 99 := ti_ok (by kernel_rfl) rfl rfl (other_ok (by kernel_rfl)) (by decide)
theorem k100 : i100.ok Try.prog 100 := ti_ok (by kernel_rfl) rfl rfl (other_ok (by kernel_rfl)) (by decide)
theorem k101 : i101.ok Try.prog 101 := ti_ok (by kernel_rfl) rfl rfl (other_ok (by kernel_rfl)) (by decide)
theorem k102 : i102.ok Try.prog 102 := ti_ok (by kernel_rfl) rfl rfl (other_ok (by kernel_rfl)) (by decide)
theorem k103 : i103.ok Try.prog 103 := ti_ok (by kernel_rfl) rfl rfl (other_ok (by kernel_rfl)) (by decide)
theorem k104 : i104.ok Try.prog 104 := ti_ok (by kernel_rfl) rfl rfl (other_ok (by kernel_rfl)) (by decide)
theorem k105 : i105.ok Try.prog 105 := ti_ok (by kernel_rfl) rfl rfl (⟨by kernel_rfl, rfl⟩) (by decide)
theorem k106 : i106.ok Try.prog 106 := ti_ok (by kernel_rfl) rfl rfl (other_ok (by kernel_rfl)) (by decide)
theorem k107 : i107.ok Try.prog 107 := ti_ok (by kernel_rfl) rfl rfl (other_ok (by kernel_rfl)) (by decide)
theorem k108 : i108.ok Try.prog 108 := ti_ok (by kernel_rfl) rfl rfl (other_ok (by kernel_rfl)) (by decide)
theorem k109 : i109.ok Try.prog 109 := ti_ok (by kernel_rfl) rfl rfl (other_ok (by kernel_rfl)) (by decide)
theorem k110 : i110.ok Try.prog 110 := ti_ok (by kernel_rfl) rfl rfl (other_ok (by kernel_rfl)) (by decide)
theorem k111 : i111.ok Try.prog 111 := ti_ok (by kernel_rfl) rfl rfl (other_ok (by kernel_rfl)) (by decide)
theorem k112 : i112.ok Try.prog 112 := ti_ok (by kernel_rfl) rfl rfl (other_ok (by kernel_rfl)) (by decide)
theorem k113 : i113.ok Try.prog 113 := ti_ok (by kernel_rfl) rfl rfl (other_ok (by kernel_rfl)) (by decide)
theorem k114 : i114.ok Try.prog 114 := ti_ok (by kernel_rfl) rfl rfl (other_ok (by kernel_rfl)) (by decide)
theorem k115 : i115.ok Try.prog 115 := ti_ok (by kernel_rfl) rfl rfl (other_ok (by kernel_rfl)) (by decide)
theorem k116 : i116.ok Try.prog 116 := ti_ok (by kernel_rfl) rfl rfl (other_ok (by kernel_rfl)) (by decide)
theorem k117 : i117.ok Try.prog 117 := ti_ok (by kernel_rfl) rfl rfl (other_ok (by kernel_rfl)) (by decide)
theorem k118 : i118.ok Try.prog 118 := ti_ok (by kernel_rfl) rfl rfl (other_ok (by kernel_rfl)) (by decide)
theorem k119 : i119.ok Try.prog 119 := ti_ok (by kernel_rfl) rfl rfl (other_ok (by kernel_rfl)) (by decide)
theorem k120 : i120.ok Try.prog 120 := ti_ok (by kernel_rfl) rfl rfl (other_ok (by kernel_rfl)) (by decide)
theorem k121 : i121.ok Try.prog 121 := ti_ok (by kernel_rfl) rfl rfl (other_ok (by kernel_rfl)) (by decide)
theorem k122 : i122.ok Try.prog 122 := ti_ok (by kernel_rfl) rfl rfl (other_ok (by kernel_rfl)) (by decide)
theorem k123 : i123.ok Try.prog 123 := ti_ok (by kernel_rfl) rfl rfl (⟨by kernel_rfl, rfl⟩) (by decide)
theorem k124 : i124.ok Try.prog 124 := ti_ok (by kernel_rfl) rfl rfl (other_ok (by kernel_rfl)) (by decide)
theorem k125 : i125.ok Try.prog 125 := ti_ok (by kernel_rfl) rfl rfl (other_ok (by kernel_rfl)) (by decide)
theorem k126 : i126.ok Try.prog 126 := ti_ok (by kernel_rfl) rfl rfl (other_ok (by kernel_rfl)) (by decide)
theorem k127 : i127.ok Try.prog 127 := ti_ok (by kernel_rfl) rfl rfl (other_ok (by kernel_rfl)) (by decide)
theorem k128 : i128.ok Try.prog 128 := ti_ok (by kernel_rfl) rfl rfl (other_ok (by kernel_rfl)) (by decide)
theorem k129 : i129.ok Try.prog 129 := ti_ok (by kernel_rfl) rfl rfl (other_ok (by kernel_rfl)) (by decide)
theorem k130 : i130.ok Try.prog 130 := ti_ok (by kernel_rfl) rfl rfl (other_ok (by kernel_rfl)) (by decide)
theorem k131 : i131.ok Try.prog 131 := ti_ok (by kernel_rfl) rfl rfl (other_ok (by kernel_rfl)) (by decide)
theorem k132 : i132.ok Try.prog 132 := ti_ok (by kernel_rfl) rfl rfl (⟨by kernel_rfl, rfl⟩) (by decide)
theorem k133 : i133.ok Try.prog 133 := ti_ok (by kernel_rfl) rfl rfl (other_ok (by kernel_rfl)) (by decide)
theorem k134 : i134.ok Try.prog 134 := ti_ok (by kernel_rfl) rfl rfl (other_ok (by kernel_rfl)) (by decide)
theorem k135 : i135.ok Try.prog 135 := ti_ok (by kernel_rfl) rfl rfl (other_ok (by kernel_rfl)) (by decide)
theorem k136 : i136.ok Try.prog 136 := ti_ok (by kernel_rfl) rfl rfl (other_ok (by kernel_rfl)) (by decide)
theorem k137 : i137.ok Try.prog 137 := ti_ok (by kernel_rfl) rfl rfl (other_ok (by kernel_rfl)) (by decide)
theorem k138 : i138.ok Try.prog 138 := ti_ok (by kernel_rfl) rfl rfl (other_ok (by kernel_rfl)) (by decide)
theorem k139 : i139.ok Try.prog 139 := ti_ok (by kernel_rfl) rfl rfl (other_ok (by kernel_rfl)) (by decide)
theorem k140 : i140.ok Try.prog 140 := ti_ok (by kernel_rfl) rfl rfl (other_ok (by kernel_rfl)) (by decide)
theorem k141 : i141.ok Try.prog 141 := ti_ok (by kernel_rfl) rfl rfl (other_ok (by kernel_rfl)) (by decide)
theorem k142 : i142.ok Try.prog 142 := ti_ok (by kernel_rfl) rfl rfl (other_ok (by kernel_rfl)) (by decide)
theorem k143 : i143.ok Try.prog 143 := ti_ok (by kernel_rfl) rfl rfl (other_ok (by kernel_rfl)) (by decide)
theorem k144 : i144.ok Try.prog 144 := ti_ok (by kernel_rfl) rfl rfl (other_ok (by kernel_rfl)) (by decide)
theorem k145 : i145.ok Try.prog 145 := ti_ok (by kernel_rfl) rfl rfl (other_ok (by kernel_rfl)) (by decide)
theorem k146 : i146.ok Try.prog 146 := ti_ok (by kernel_rfl) rfl rfl (other_ok (by kernel_rfl)) (by decide)
theorem k147 : i147.ok Try.prog 147 := ti_ok (by kernel_rfl) rfl rfl (other_ok (by kernel_rfl)) (by decide)
theorem k148 : i148.ok Try.prog 148 := ti_ok (by kernel_rfl) rfl rfl (other_ok (by kernel_rfl)) (by decide)
theorem k149 : i149.ok Try.prog 149 := ti_ok (by kernel_rfl) rfl rfl (⟨by kernel_rfl, rfl⟩) (by decide)
theorem k150 : i150.ok Try.prog 150 := ti_ok (by kernel_rfl) rfl rfl (other_ok (by kernel_rfl)) (by decide)
theorem k151 : i151.ok Try.prog 151 := ti_ok (by kernel_rfl) rfl rfl (⟨by kernel_rfl, rfl⟩) (by decide)
theorem k152 : i152.ok Try.prog 152 := ti_ok (by kernel_rfl) rfl rfl (other_ok (by kernel_rfl)) (by decide)
theorem k153 : i153.ok Try.prog 153 := ti_ok (by kernel_rfl) rfl rfl (other_ok (by kernel_rfl)) (by decide)
theorem k154 : i154.ok Try.prog 154 := ti_ok (by kernel_rfl) rfl rfl (other_ok (by kernel_rfl)) (by decide)
theorem k155 : i155.ok Try.prog 155 := ti_ok (by kernel_rfl) rfl rfl (other_ok (by kernel_rfl)) (by decide)
theorem k156 : i156.ok Try.prog 156 := ti_ok (by kernel_rfl) rfl rfl (other_ok (by kernel_rfl)) (by decide)
theorem k162 : i162.ok Try.prog 162 := ti_ok (by kernel_rfl) rfl rfl (other_ok (by kernel_rfl)) (by decide)
theorem k163 : i163.ok Try.prog 163 := ti_ok (by kernel_rfl) rfl rfl (⟨by kernel_rfl, rfl⟩) (by decide)
theorem k166 : i166.ok Try.prog 166 := ti_ok (by kernel_rfl) rfl rfl (other_ok (by kernel_rfl)) (by decide)
theorem k167 : i167.ok Try.prog 167 := ti_ok (by kernel_rfl) rfl rfl (other_ok (by kernel_rfl)) (by decide)
theorem k170 : i170.ok Try.prog 170 := ti_ok (by kernel_rfl) rfl rfl (struct_ok (by kernel_rfl)) (by decide)
theorem ok : TOk Try.prog T := by
  unfold T
  refine tok_cons k1 ?_
  refine tok_cons k2 ?_
  refine tok_cons k3 ?_
  refine tok_cons k4 ?_
  refine tok_cons k5 ?_
  refine tok_cons k9 ?_
  refine tok_cons k12 ?_
  refine tok_cons k17 ?_
  refine tok_cons k20 ?_
  refine tok_cons k21 ?_
  refine tok_cons k22 ?_
  refine tok_cons k23 ?_
  refine tok_cons k25 ?_
  refine tok_cons k27 ?_
  refine tok_cons k28 ?_
  refine tok_cons k29 ?_
  refine tok_cons k30 ?_
  refine tok_cons k31 ?_
  refine tok_cons k32 ?_
  refine tok_cons k33 ?_
  refine tok_cons k34 ?_
  refine tok_cons k35 ?_
  refine tok_cons k36 ?_
  refine tok_cons k37 ?_
  refine tok_cons k38 ?_
  refine tok_cons k39 ?_
  refine tok_cons k40 ?_
  refine tok_cons k41 ?_
  refine tok_cons k42 ?_
  refine tok_cons k43 ?_
  refine tok_cons k44 ?_
  refine tok_cons k45 ?_
  refine tok_cons k46 ?_
  refine tok_cons k47 ?_
  refine tok_cons k48 ?_
  refine tok_cons k49 ?_
  refine tok_cons k51 ?_
  refine tok_cons k52 ?_
  refine tok_cons k53 ?_
  refine tok_cons k55 ?_
  refine tok_cons k57 ?_
  refine tok_cons k58 ?_
  refine tok_cons k59 ?_
  refine tok_cons k60 ?_
  refine tok_cons k62 ?_
  refine tok_cons k63 ?_
  refine tok_cons k64 ?_
  refine tok_cons k65 ?_
  refine tok_cons k66 ?_
  refine tok_cons k67 ?_
  refine tok_cons k68 ?_
  refine tok_cons k69 ?_
  refine tok_cons k70 ?_
  refine tok_cons k71 ?_
  refine tok_cons k72 ?_
  refine tok_cons k74 ?_
  refine tok_cons k75 ?_
  refine tok_cons k76 ?_
  refine tok_cons k77 ?_
  refine tok_cons k78 ?_
  refine tok_cons k79 ?_
  refine tok_cons k80 ?_
  refine tok_cons k81 ?_
  refine tok_cons k82 ?_
  refine tok_cons k83 ?_
  refine tok_cons k84 ?_
  refine tok_cons k85 ?_
  refine tok_cons k86 ?_
  refine tok_cons k88 ?_
  refine tok_cons k89 ?_
  refine tok_cons k90 ?_
  refine tok_cons k91 ?_
  refine tok_cons k92 ?_
  refine tok_cons k93 ?_
  refine tok_cons k94 ?_
  refine tok_cons k95 ?_
  refine tok_cons k96 ?_
  refine tok_cons k97 ?_
  refine tok_cons k98 ?_
  refine tok_cons k99 ?_
  refine tok_cons k100 ?_
  refine tok_cons k101 ?_
  refine tok_cons k102 ?_
  refine tok_cons k103 ?_
  refine tok_cons k104 ?_
  refine tok_cons k105 ?_
  refine tok_cons k106 ?_
  refine tok_cons k107 ?_
  refine tok_cons k108 ?_
  refine tok_cons k109 ?_
  refine tok_cons k110 ?_
  refine tok_cons k111 ?_
  refine tok_cons k112 ?_
  refine tok_cons k113 ?_
  refine tok_cons k114 ?_
  refine tok_cons k115 ?_
  refine tok_cons k116 ?_
  refine tok_cons k117 ?_
  refine tok_cons k118 ?_
  refine tok_cons k119 ?_
  refine tok_cons k120 ?_
  refine tok_cons k121 ?_
  refine tok_cons k122 ?_
  refine tok_cons k123 ?_
  refine tok_cons k124 ?_
  refine tok_cons k125 ?_
  refine tok_cons k126 ?_
  refine tok_cons k127 ?_
  refine tok_cons k128 ?_
  refine tok_cons k129 ?_
  refine tok_cons k130 ?_
  refine tok_cons k131 ?_
  refine tok_cons k132 ?_
  refine tok_cons k133 ?_
  refine tok_cons k134 ?_
  refine tok_cons k135 ?_
  refine tok_cons k136 ?_
  refine tok_cons k137 ?_
  refine tok_cons k138 ?_
  refine tok_cons k139 ?_
  refine tok_cons k140 ?_
  refine tok_cons k141 ?_
  refine tok_cons k142 ?_
  refine tok_cons k143 ?_
  refine tok_cons k144 ?_
  refine tok_cons k145 ?_
  refine tok_cons k146 ?_
  refine tok_cons k147 ?_
  refine tok_cons k148 ?_
  refine tok_cons k149 ?_
  refine tok_cons k150 ?_
  refine tok_cons k151 ?_
  refine tok_cons k152 ?_
  refine tok_cons k153 ?_
  refine tok_cons k154 ?_
  refine tok_cons k155 ?_
  refine tok_cons k156 ?_
  refine tok_cons k162 ?_
  refine tok_cons k163 ?_
  refine tok_cons k166 ?_
  refine tok_cons k167 ?_
  refine tok_cons k170 ?_
  exact tok_nil
theorem mixed : Try.prog.follows .mixedOrders = true := by kernel_rfl
end RdT
end Go.Proofs.Ytfdaioinghfjpaa

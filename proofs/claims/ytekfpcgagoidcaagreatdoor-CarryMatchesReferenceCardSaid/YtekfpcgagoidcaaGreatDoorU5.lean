/- The layouts of the seat's types. Alignments in plain words: the table, the least cost, what a table proves, the way back. No statement is proved here. -/
import Derived.Test.YtekfpcgagoidcaaGreatDoorRows
import Derived.Test.YtekfpcgagoidcaaGreatDoorU3
import Derived.Test.YtekfpcgagoidcaaGreatDoorU4
set_option linter.unusedVariables false
set_option linter.unusedSimpArgs false
namespace Go.Proofs.YtekfpcgagoidcaaGreatDoor
open Go.Ab
def tab : Tab := [
 (1, ⟨.func, 1, 8, [.func]⟩),
 (2, ⟨.int .i64, 1, 8, [.i .i64]⟩),
 (3, ⟨.int .i64, 1, 8, [.i .i64]⟩),
 (4, ⟨.bool, 1, 1, [.bool]⟩),
 (5, ⟨.int .u8, 1, 1, [.i .u8]⟩),
 (6, ⟨.int .u8, 1, 1, [.i .u8]⟩),
 (7, ⟨.struct [(2, 0, 1), (3, 1, 1), (4, 2, 1), (6, 3, 1)], 4, 24, [.i .i64, .i .i64, .bool, .i .u8]⟩),
 (8, ⟨.struct [(2, 0, 1), (3, 1, 1), (4, 2, 1), (6, 3, 1)], 4, 24, [.i .i64, .i .i64, .bool, .i .u8]⟩),
 (9, ⟨.str, 1, 16, [.str]⟩),
 (10, ⟨.str, 1, 16, [.str]⟩),
 (11, ⟨.str, 1, 16, [.str]⟩),
 (12, ⟨.int .u64, 1, 8, [.i .u64]⟩),
 (13, ⟨.struct [(9, 0, 1), (12, 1, 1)], 2, 24, [.str, .i .u64]⟩),
 (14, ⟨.struct [(9, 0, 1), (12, 1, 1)], 2, 24, [.str, .i .u64]⟩),
 (15, ⟨.ptr 230, 1, 8, [.ptr]⟩),
 (16, ⟨.ptr 233, 1, 8, [.ptr]⟩),
 (17, ⟨.ptr 242, 1, 8, [.ptr]⟩),
 (18, ⟨.struct [(17, 0, 1)], 1, 8, [.ptr]⟩),
 (19, ⟨.struct [(17, 0, 1)], 1, 8, [.ptr]⟩),
 (20, ⟨.iface, 1, 16, [.iface]⟩),
 (21, ⟨.int .i32, 1, 4, [.i .i32]⟩),
 (22, ⟨.slice 59, 1, 24, [.slice]⟩),
 (23, ⟨.slice 130, 1, 24, [.slice]⟩),
 (24, ⟨.slice 56, 1, 24, [.slice]⟩),
 (25, ⟨.struct [(3, 0, 1), (22, 1, 1), (23, 2, 1), (24, 3, 1)], 4, 80, [.i .i64, .slice, .slice, .slice]⟩),
 (26, ⟨.struct [(3, 0, 1), (22, 1, 1), (23, 2, 1), (24, 3, 1)], 4, 80, [.i .i64, .slice, .slice, .slice]⟩),
 (27, ⟨.slice 48, 1, 24, [.slice]⟩),
 (28, ⟨.slice 93, 1, 24, [.slice]⟩),
 (29, ⟨.struct [(27, 0, 1), (3, 1, 1), (28, 2, 1)], 3, 56, [.slice, .i .i64, .slice]⟩),
 (30, ⟨.struct [(27, 0, 1), (3, 1, 1), (28, 2, 1)], 3, 56, [.slice, .i .i64, .slice]⟩),
 (31, ⟨.func, 1, 8, [.func]⟩),
 (32, ⟨.func, 1, 8, [.func]⟩),
 (33, ⟨.int .i64, 1, 8, [.i .i64]⟩),
 (35, ⟨.func, 1, 8, [.func]⟩),
 (37, ⟨.func, 1, 8, [.func]⟩),
 (38, ⟨.func, 1, 8, [.func]⟩),
 (40, ⟨.func, 1, 8, [.func]⟩),
 (42, ⟨.func, 1, 8, [.func]⟩),
 (43, ⟨.func, 1, 8, [.func]⟩),
 (44, ⟨.func, 1, 8, [.func]⟩),
 (45, ⟨.slice 5, 1, 24, [.slice]⟩),
 (46, ⟨.func, 1, 8, [.func]⟩),
 (47, ⟨.struct [(3, 0, 1), (3, 1, 1)], 2, 16, [.i .i64, .i .i64]⟩),
 (48, ⟨.struct [(3, 0, 1), (3, 1, 1)], 2, 16, [.i .i64, .i .i64]⟩),
 (49, ⟨.func, 1, 8, [.func]⟩),
 (50, ⟨.func, 1, 8, [.func]⟩),
 (51, ⟨.struct [(3, 0, 1), (3, 1, 1)], 2, 16, [.i .i64, .i .i64]⟩),
 (52, ⟨.struct [(3, 0, 1), (3, 1, 1)], 2, 16, [.i .i64, .i .i64]⟩),
 (53, ⟨.struct [(3, 0, 1), (3, 1, 1), (3, 2, 1)], 3, 24, [.i .i64, .i .i64, .i .i64]⟩),
 (54, ⟨.struct [(3, 0, 1), (3, 1, 1), (3, 2, 1)], 3, 24, [.i .i64, .i .i64, .i .i64]⟩),
 (55, ⟨.struct [(3, 0, 1), (3, 1, 1), (3, 2, 1), (3, 3, 1), (3, 4, 1), (52, 5, 2), (52, 7, 2), (54, 9, 3)], 12, 96, [.i .i64, .i .i64, .i .i64, .i .i64, .i .i64, .i .i64, .i .i64, .i .i64, .i .i64, .i .i64, .i .i64, .i .i64]⟩),
 (56, ⟨.struct [(3, 0, 1), (3, 1, 1), (3, 2, 1), (3, 3, 1), (3, 4, 1), (52, 5, 2), (52, 7, 2), (54, 9, 3)], 12, 96, [.i .i64, .i .i64, .i .i64, .i .i64, .i .i64, .i .i64, .i .i64, .i .i64, .i .i64, .i .i64, .i .i64, .i .i64]⟩),
 (57, ⟨.map 60 4, 1, 8, [.map]⟩),
 (58, ⟨.struct [(3, 0, 1), (52, 1, 2), (3, 3, 1)], 4, 32, [.i .i64, .i .i64, .i .i64, .i .i64]⟩),
 (59, ⟨.struct [(3, 0, 1), (52, 1, 2), (3, 3, 1)], 4, 32, [.i .i64, .i .i64, .i .i64, .i .i64]⟩),
 (60, ⟨.arr 2 3, 2, 16, [.i .i64, .i .i64]⟩),
 (61, ⟨.map 3 4, 1, 8, [.map]⟩),
 (62, ⟨.map 3 3, 1, 8, [.map]⟩),
 (63, ⟨.func, 1, 8, [.func]⟩),
 (64, ⟨.func, 1, 8, [.func]⟩),
 (65, ⟨.slice 26, 1, 24, [.slice]⟩),
 (66, ⟨.struct [(3, 0, 1), (3, 1, 1), (3, 2, 1)], 3, 24, [.i .i64, .i .i64, .i .i64]⟩),
 (67, ⟨.struct [(3, 0, 1), (3, 1, 1), (3, 2, 1)], 3, 24, [.i .i64, .i .i64, .i .i64]⟩),
 (68, ⟨.struct [(3, 0, 1), (3, 1, 1), (3, 2, 1), (67, 3, 3), (3, 6, 1), (3, 7, 1), (3, 8, 1), (9, 9, 1)], 10, 88, [.i .i64, .i .i64, .i .i64, .i .i64, .i .i64, .i .i64, .i .i64, .i .i64, .i .i64, .str]⟩),
 (69, ⟨.struct [(3, 0, 1), (3, 1, 1), (3, 2, 1), (67, 3, 3), (3, 6, 1), (3, 7, 1), (3, 8, 1), (9, 9, 1)], 10, 88, [.i .i64, .i .i64, .i .i64, .i .i64, .i .i64, .i .i64, .i .i64, .i .i64, .i .i64, .str]⟩),
 (70, ⟨.slice 69, 1, 24, [.slice]⟩),
 (71, ⟨.func, 1, 8, [.func]⟩),
 (73, ⟨.func, 1, 8, [.func]⟩),
 (75, ⟨.func, 1, 8, [.func]⟩),
 (76, ⟨.func, 1, 8, [.func]⟩),
 (77, ⟨.func, 1, 8, [.func]⟩),
 (78, ⟨.func, 1, 8, [.func]⟩),
 (79, ⟨.func, 1, 8, [.func]⟩),
 (80, ⟨.func, 1, 8, [.func]⟩),
 (81, ⟨.func, 1, 8, [.func]⟩),
 (82, ⟨.func, 1, 8, [.func]⟩),
 (83, ⟨.func, 1, 8, [.func]⟩),
 (84, ⟨.func, 1, 8, [.func]⟩),
 (85, ⟨.func, 1, 8, [.func]⟩),
 (86, ⟨.func, 1, 8, [.func]⟩),
 (87, ⟨.ptr 105, 1, 8, [.ptr]⟩),
 (89, ⟨.func, 1, 8, [.func]⟩),
 (90, ⟨.func, 1, 8, [.func]⟩),
 (91, ⟨.func, 1, 8, [.func]⟩),
 (92, ⟨.func, 1, 8, [.func]⟩),
 (93, ⟨.slice 3, 1, 24, [.slice]⟩),
 (94, ⟨.func, 1, 8, [.func]⟩),
 (95, ⟨.func, 1, 8, [.func]⟩),
 (96, ⟨.func, 1, 8, [.func]⟩),
 (97, ⟨.func, 1, 8, [.func]⟩),
 (98, ⟨.func, 1, 8, [.func]⟩),
 (99, ⟨.func, 1, 8, [.func]⟩),
 (100, ⟨.func, 1, 8, [.func]⟩),
 (101, ⟨.func, 1, 8, [.func]⟩),
 (102, ⟨.map 60 24, 1, 8, [.map]⟩),
 (103, ⟨.map 60 3, 1, 8, [.map]⟩),
 (104, ⟨.struct [(26, 0, 4), (26, 4, 4), (102, 8, 1), (103, 9, 1)], 10, 176, [.i .i64, .slice, .slice, .slice, .i .i64, .slice, .slice, .slice, .map, .map]⟩),
 (105, ⟨.struct [(26, 0, 4), (26, 4, 4), (102, 8, 1), (103, 9, 1)], 10, 176, [.i .i64, .slice, .slice, .slice, .i .i64, .slice, .slice, .slice, .map, .map]⟩),
 (106, ⟨.func, 1, 8, [.func]⟩),
 (107, ⟨.func, 1, 8, [.func]⟩),
 (108, ⟨.func, 1, 8, [.func]⟩),
 (110, ⟨.func, 1, 8, [.func]⟩),
 (111, ⟨.func, 1, 8, [.func]⟩),
 (112, ⟨.func, 1, 8, [.func]⟩),
 (113, ⟨.func, 1, 8, [.func]⟩),
 (114, ⟨.func, 1, 8, [.func]⟩),
 (115, ⟨.func, 1, 8, [.func]⟩),
 (116, ⟨.ptr 159, 1, 8, [.ptr]⟩),
 (118, ⟨.func, 1, 8, [.func]⟩),
 (119, ⟨.func, 1, 8, [.func]⟩),
 (120, ⟨.func, 1, 8, [.func]⟩),
 (121, ⟨.func, 1, 8, [.func]⟩),
 (122, ⟨.func, 1, 8, [.func]⟩),
 (123, ⟨.func, 1, 8, [.func]⟩),
 (124, ⟨.func, 1, 8, [.func]⟩),
 (125, ⟨.func, 1, 8, [.func]⟩),
 (126, ⟨.slice 60, 1, 24, [.slice]⟩),
 (127, ⟨.struct [(3, 0, 1), (3, 1, 1)], 2, 16, [.i .i64, .i .i64]⟩),
 (128, ⟨.struct [(3, 0, 1), (3, 1, 1)], 2, 16, [.i .i64, .i .i64]⟩),
 (129, ⟨.struct [(3, 0, 1), (3, 1, 1), (3, 2, 1), (3, 3, 1), (3, 4, 1), (128, 5, 2), (54, 7, 3), (54, 10, 3)], 13, 104, [.i .i64, .i .i64, .i .i64, .i .i64, .i .i64, .i .i64, .i .i64, .i .i64, .i .i64, .i .i64, .i .i64, .i .i64, .i .i64]⟩),
 (130, ⟨.struct [(3, 0, 1), (3, 1, 1), (3, 2, 1), (3, 3, 1), (3, 4, 1), (128, 5, 2), (54, 7, 3), (54, 10, 3)], 13, 104, [.i .i64, .i .i64, .i .i64, .i .i64, .i .i64, .i .i64, .i .i64, .i .i64, .i .i64, .i .i64, .i .i64, .i .i64, .i .i64]⟩),
 (131, ⟨.func, 1, 8, [.func]⟩),
 (132, ⟨.func, 1, 8, [.func]⟩),
 (133, ⟨.func, 1, 8, [.func]⟩),
 (134, ⟨.func, 1, 8, [.func]⟩),
 (135, ⟨.func, 1, 8, [.func]⟩),
 (136, ⟨.func, 1, 8, [.func]⟩),
 (137, ⟨.func, 1, 8, [.func]⟩),
 (138, ⟨.func, 1, 8, [.func]⟩),
 (139, ⟨.func, 1, 8, [.func]⟩),
 (140, ⟨.func, 1, 8, [.func]⟩),
 (141, ⟨.func, 1, 8, [.func]⟩),
 (142, ⟨.func, 1, 8, [.func]⟩),
 (143, ⟨.func, 1, 8, [.func]⟩),
 (144, ⟨.func, 1, 8, [.func]⟩),
 (145, ⟨.func, 1, 8, [.func]⟩),
 (146, ⟨.func, 1, 8, [.func]⟩),
 (147, ⟨.struct [(145, 0, 1), (146, 1, 1)], 2, 16, [.func, .func]⟩),
 (148, ⟨.struct [(145, 0, 1), (146, 1, 1)], 2, 16, [.func, .func]⟩),
 (150, ⟨.map 3 148, 1, 8, [.map]⟩),
 (151, ⟨.func, 1, 8, [.func]⟩),
 (152, ⟨.func, 1, 8, [.func]⟩),
 (153, ⟨.func, 1, 8, [.func]⟩),
 (154, ⟨.slice 21, 1, 24, [.slice]⟩),
 (156, ⟨.func, 1, 8, [.func]⟩),
 (157, ⟨.map 3 62, 1, 8, [.map]⟩),
 (158, ⟨.struct [(65, 0, 1), (26, 1, 4), (157, 5, 1)], 6, 112, [.slice, .i .i64, .slice, .slice, .slice, .map]⟩),
 (159, ⟨.struct [(65, 0, 1), (26, 1, 4), (157, 5, 1)], 6, 112, [.slice, .i .i64, .slice, .slice, .slice, .map]⟩),
 (161, ⟨.func, 1, 8, [.func]⟩),
 (163, ⟨.func, 1, 8, [.func]⟩),
 (164, ⟨.func, 1, 8, [.func]⟩),
 (165, ⟨.func, 1, 8, [.func]⟩),
 (166, ⟨.func, 1, 8, [.func]⟩),
 (167, ⟨.func, 1, 8, [.func]⟩),
 (168, ⟨.func, 1, 8, [.func]⟩),
 (169, ⟨.func, 1, 8, [.func]⟩),
 (170, ⟨.func, 1, 8, [.func]⟩),
 (171, ⟨.func, 1, 8, [.func]⟩),
 (172, ⟨.func, 1, 8, [.func]⟩),
 (173, ⟨.func, 1, 8, [.func]⟩),
 (174, ⟨.func, 1, 8, [.func]⟩),
 (175, ⟨.func, 1, 8, [.func]⟩),
 (176, ⟨.func, 1, 8, [.func]⟩),
 (178, ⟨.func, 1, 8, [.func]⟩),
 (179, ⟨.func, 1, 8, [.func]⟩),
 (180, ⟨.map 3 130, 1, 8, [.map]⟩),
 (182, ⟨.func, 1, 8, [.func]⟩),
 (183, ⟨.func, 1, 8, [.func]⟩),
 (184, ⟨.func, 1, 8, [.func]⟩),
 (185, ⟨.func, 1, 8, [.func]⟩),
 (186, ⟨.func, 1, 8, [.func]⟩),
 (187, ⟨.func, 1, 8, [.func]⟩),
 (188, ⟨.func, 1, 8, [.func]⟩),
 (189, ⟨.func, 1, 8, [.func]⟩),
 (190, ⟨.int .u64, 1, 8, [.i .u64]⟩),
 (191, ⟨.func, 1, 8, [.func]⟩),
 (192, ⟨.func, 1, 8, [.func]⟩),
 (193, ⟨.func, 1, 8, [.func]⟩),
 (194, ⟨.func, 1, 8, [.func]⟩),
 (195, ⟨.func, 1, 8, [.func]⟩),
 (196, ⟨.func, 1, 8, [.func]⟩),
 (197, ⟨.func, 1, 8, [.func]⟩),
 (198, ⟨.func, 1, 8, [.func]⟩),
 (199, ⟨.func, 1, 8, [.func]⟩),
 (200, ⟨.func, 1, 8, [.func]⟩),
 (201, ⟨.int .i64, 1, 8, [.i .i64]⟩),
 (203, ⟨.func, 1, 8, [.func]⟩),
 (204, ⟨.func, 1, 8, [.func]⟩),
 (205, ⟨.func, 1, 8, [.func]⟩),
 (206, ⟨.func, 1, 8, [.func]⟩),
 (207, ⟨.func, 1, 8, [.func]⟩),
 (208, ⟨.int .u32, 1, 4, [.i .u32]⟩),
 (209, ⟨.func, 1, 8, [.func]⟩),
 (210, ⟨.int .u64, 1, 8, [.i .u64]⟩),
 (211, ⟨.func, 1, 8, [.func]⟩),
 (212, ⟨.func, 1, 8, [.func]⟩),
 (213, ⟨.struct [(3, 0, 1), (3, 1, 1)], 2, 16, [.i .i64, .i .i64]⟩),
 (214, ⟨.struct [(3, 0, 1), (3, 1, 1)], 2, 16, [.i .i64, .i .i64]⟩),
 (215, ⟨.func, 1, 8, [.func]⟩),
 (216, ⟨.int .u64, 1, 8, [.i .u64]⟩),
 (217, ⟨.func, 1, 8, [.func]⟩),
 (218, ⟨.func, 1, 8, [.func]⟩),
 (219, ⟨.func, 1, 8, [.func]⟩),
 (220, ⟨.ptr 3, 1, 8, [.ptr]⟩),
 (221, ⟨.func, 1, 8, [.func]⟩),
 (222, ⟨.arr 7 3, 7, 56, [.i .i64, .i .i64, .i .i64, .i .i64, .i .i64, .i .i64, .i .i64]⟩),
 (223, ⟨.ptr 216, 1, 8, [.ptr]⟩),
 (225, ⟨.func, 1, 8, [.func]⟩),
 (227, ⟨.func, 1, 8, [.func]⟩),
 (228, ⟨.func, 1, 8, [.func]⟩),
 (229, ⟨.struct [(17, 0, 1), (17, 1, 1), (17, 2, 1), (9, 3, 1)], 4, 40, [.ptr, .ptr, .ptr, .str]⟩),
 (230, ⟨.struct [(17, 0, 1), (17, 1, 1), (17, 2, 1), (9, 3, 1)], 4, 40, [.ptr, .ptr, .ptr, .str]⟩),
 (234, ⟨.func, 1, 8, [.func]⟩),
 (235, ⟨.int .u8, 1, 1, [.i .u8]⟩),
 (236, ⟨.int .u8, 1, 1, [.i .u8]⟩),
 (237, ⟨.func, 1, 8, [.func]⟩),
 (238, ⟨.ptr 5, 1, 8, [.ptr]⟩),
 (239, ⟨.int .i32, 1, 4, [.i .i32]⟩),
 (240, ⟨.int .i32, 1, 4, [.i .i32]⟩),
 (241, ⟨.struct [(12, 0, 1), (12, 1, 1), (208, 2, 1), (235, 3, 1), (5, 4, 1), (5, 5, 1), (236, 6, 1), (237, 7, 1), (238, 8, 1), (239, 9, 1), (240, 10, 1)], 11, 48, [.i .u64, .i .u64, .i .u32, .i .u8, .i .u8, .i .u8, .i .u8, .func, .ptr, .i .i32, .i .i32]⟩),
 (242, ⟨.struct [(12, 0, 1), (12, 1, 1), (208, 2, 1), (235, 3, 1), (5, 4, 1), (5, 5, 1), (236, 6, 1), (237, 7, 1), (238, 8, 1), (239, 9, 1), (240, 10, 1)], 11, 48, [.i .u64, .i .u64, .i .u32, .i .u8, .i .u8, .i .u8, .i .u8, .func, .ptr, .i .i32, .i .i32]⟩),
 (243, ⟨.func, 1, 8, [.func]⟩)]
theorem tabOk : tab.Ok Tryz.prog := Tab.ok_of _ _ (by kernel_rfl)
end Go.Proofs.YtekfpcgagoidcaaGreatDoor
namespace Go.Proofs.YtekfpcgagoidcaaGreatDoor.Al
def T (c : Nat → Nat → Int) : Nat → Nat → Int
 | 0, k => 2 * (k : Int)
 | i + 1, 0 => 2 * ((i + 1 : Nat) : Int)
 | i + 1, k + 1 => min (T c i (k + 1) + 2) (min (T c (i + 1) k + 2) (T c i k + c i k))
termination_by i k => (i, k)
section
variable {c : Nat → Nat → Int}
theorem T_zero (k : Nat) : T c 0 k = 2 * (k : Int) := by rw [T]
theorem T_left (i : Nat) : T c i 0 = 2 * (i : Int) := by
 cases i with
 | zero => rw [T]; try rfl
 | succ i => rw [T]
theorem T_succ (i k : Nat) : T c (i + 1) (k + 1) = min (T c i (k + 1) + 2) (min (T c (i + 1) k + 2) (T c i k + c i k)) := by rw [T]
theorem T_le : ∀ i k : Nat, T c i k ≤ 2 * ((i : Int) + k)
 | 0, k => by rw [T_zero]; omega
 | i + 1, 0 => by rw [T_left]; omega
 | i + 1, k + 1 => by
   have := T_le i (k + 1)
   rw [T_succ]; omega
theorem T_up (i k : Nat) : T c (i + 1) k ≤ T c i k + 2 := by
 cases k with
 | zero => rw [T_left, T_left]; omega
 | succ k => rw [T_succ]; omega
theorem T_low (hc : ∀ i k, 0 ≤ c i k) : ∀ i k : Nat, 0 ≤ T c i k ∧ 2 * ((i : Int) - k) ≤ T c i k ∧ 2 * ((k : Int) - i) ≤ T c i k
 | 0, k => by rw [T_zero]; omega
 | i + 1, 0 => by rw [T_left]; omega
 | i + 1, k + 1 => by
   have h1 := T_low hc i (k + 1)
   have h2 := T_low hc (i + 1) k
   have h3 := T_low hc i k
   have h4 := hc i k
   rw [T_succ]; omega
termination_by i k => (i, k)
def RP : Nat → Nat → List (Nat × Nat) → Prop
 | _, _, [] => True
 | i, k, x :: r => x.1 < i ∧ x.2 < k ∧ RP x.1 x.2 r
def sumC (c : Nat → Nat → Int) (l : List (Nat × Nat)) : Int := (l.map fun x => c x.1 x.2).sum
def total (c : Nat → Nat → Int) (n m : Nat) (l : List (Nat × Nat)) : Int := 2 * ((n : Int) + m - 2 * l.length) + sumC c l
def back (c : Nat → Nat → Int) : Nat → Nat → List (Nat × Nat)
 | 0, 0 => []
 | 0, k + 1 => back c 0 k
 | i + 1, 0 => back c i 0
 | i + 1, k + 1 => if T c (i + 1) (k + 1) = T c i k + c i k then (i, k) :: back c i k else if T c (i + 1) (k + 1) = T c i (k + 1) + 2 then back c i (k + 1) else back c (i + 1) k
termination_by i k => (i, k)
theorem RP.mono {l : List (Nat × Nat)} {i k i' k' : Nat} (h : RP i k l) (hi : i ≤ i') (hk : k ≤ k') : RP i' k' l := by
 cases l with
 | nil => trivial
 | cons x r => exact ⟨by have := h.1; omega, by have := h.2.1; omega, h.2.2⟩
theorem back_spec : ∀ i k : Nat, RP i k (back c i k) ∧ total c i k (back c i k) = T c i k
 | 0, 0 => by rw [back]; exact ⟨trivial, by simp [total, sumC, T_zero]⟩
 | 0, k + 1 => by
   obtain ⟨h1, h2⟩ := back_spec 0 k
   rw [back]
   refine ⟨h1.mono (zAo _) (zBt _), ?_⟩
   rw [T_zero] at h2 ⊢
   unfold total at h2 ⊢; omega
 | i + 1, 0 => by
   obtain ⟨h1, h2⟩ := back_spec i 0
   rw [back]
   refine ⟨h1.mono (zBt _) (zAo _), ?_⟩
   rw [T_left] at h2 ⊢
   unfold total at h2 ⊢; omega
 | i + 1, k + 1 => by
   obtain ⟨a1, a2⟩ := back_spec i k
   obtain ⟨b1, b2⟩ := back_spec i (k + 1)
   obtain ⟨d1, d2⟩ := back_spec (i + 1) k
   have hT := T_succ (c := c) i k
   rw [back]
   split
   · rename_i h
     refine ⟨⟨zBn _, zBn _, a1⟩, ?_⟩
     rw [h]
     unfold total sumC at a2 ⊢
     simp only [zA8, zBk, List.sum_cons]
     omega
   · split
     · rename_i h0 h
       refine ⟨b1.mono (zBt _) (zAo _), ?_⟩
       rw [h]; unfold total at b2 ⊢; omega
     · rename_i h0 h
       refine ⟨d1.mono (zAo _) (zBt _), ?_⟩
       have : T c (i + 1) (k + 1) = T c (i + 1) k + 2 := by omega
       rw [this]; unfold total at d2 ⊢; omega
termination_by i k => (i, k)
def skip (k j : Nat) : Nat := if j < k then j else j + 1
end
end Go.Proofs.YtekfpcgagoidcaaGreatDoor.Al

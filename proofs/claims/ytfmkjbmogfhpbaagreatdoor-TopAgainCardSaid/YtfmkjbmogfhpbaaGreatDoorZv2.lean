/-
  Our own: what the claims of Zv share, 2 of 6: Ti Jz Hd RwBase Rs Rg RwG Jy Rj Jw Jx Cln Hp Hq Hr Rh LaHt Hw Hs Hu Hv Hx Hy Hz Ga Gc Gd Gf Ge Gg Gi Gj Gk Jr Mk Na Nb Nc Nd Ne.
-/
import Derived.Test.YtfmkjbmogfhpbaaGreatDoorZv1
import Derived.Test.YtfmkjbmogfhpbaaGreatDoorProg
import Derived.Laws.StructEq
import Derived.Tactics
import Derived.Laws.Slices
import Derived.Deep.Quiet
import Derived.IntWalk
import Derived.Shelf.Abstract
import Derived.Laws.Entries
import Derived.Laws.Rows
import Derived.Below
import Derived.TacticsIn
import Derived.OrdersIn
import Derived.KernelRfl
import Derived.RangeFuncStops
import Derived.RangeFuncLeaves
import Derived.LoopNIn
import Derived.Test.YtfmkjbmogfhpbaaGreatDoorRows
import Derived.ChangeArms
import Derived.WalkKit
import Derived.ProofKit
import Derived.OpenShut
import Derived.ChangeOld
import Derived.SizedLaws
import Derived.Carry
import Derived.Lib.SmallJoins
import Derived.LaidLaws
import Derived.Handed
import Derived.Lay
import Derived.MakeChecks
import Derived.Laws.Shifts
import Derived.Laws.Bits64b
set_option linter.unusedVariables false
set_option linter.unusedSimpArgs false
namespace Go.Proofs.YtfmkjbmogfhpbaaGreatDoor
open Go.Sep
def ti : TIs := [
  (3, ⟨.int .i64, 1, 8, [.int .i64 0]⟩),
  (4, ⟨.bool, 1, 1, [.bool false]⟩),
  (5, ⟨.int .u8, 1, 1, [.int .u8 0]⟩),
  (24, ⟨.struct [(0, 22), (1, 23)], 2, 48, [.slice none 0 0, .slice none 0 0]⟩),
  (25, ⟨.struct [(0, 22), (1, 23)], 2, 48, [.slice none 0 0, .slice none 0 0]⟩),
  (35, ⟨.struct [(0, 3), (1, 34)], 2, 32, [.int .i64 0, .slice none 0 0]⟩),
  (36, ⟨.struct [(0, 3), (1, 34)], 2, 32, [.int .i64 0, .slice none 0 0]⟩),
  (41, ⟨.struct [(0, 3), (1, 3), (2, 3), (3, 3), (4, 3)], 5, 40, [.int .i64 0, .int .i64 0, .int .i64 0, .int .i64 0, .int .i64 0]⟩),
  (42, ⟨.struct [(0, 3), (1, 3), (2, 3), (3, 3), (4, 3)], 5, 40, [.int .i64 0, .int .i64 0, .int .i64 0, .int .i64 0, .int .i64 0]⟩),
  (48, ⟨.struct [(0, 5), (1, 3)], 2, 16, [.int .u8 0, .int .i64 0]⟩),
  (49, ⟨.struct [(0, 5), (1, 3)], 2, 16, [.int .u8 0, .int .i64 0]⟩),
  (61, ⟨.struct [(0, 3), (1, 3), (2, 3), (3, 42)], 8, 64, [.int .i64 0, .int .i64 0, .int .i64 0, .int .i64 0, .int .i64 0, .int .i64 0, .int .i64 0, .int .i64 0]⟩),
  (62, ⟨.struct [(0, 3), (1, 3), (2, 3), (3, 42)], 8, 64, [.int .i64 0, .int .i64 0, .int .i64 0, .int .i64 0, .int .i64 0, .int .i64 0, .int .i64 0, .int .i64 0]⟩),
  (65, ⟨.struct [(0, 33), (1, 64)], 2, 48, [.slice none 0 0, .slice none 0 0]⟩),
  (66, ⟨.struct [(0, 33), (1, 64)], 2, 48, [.slice none 0 0, .slice none 0 0]⟩),
  (69, ⟨.struct [(0, 45), (1, 3)], 2, 16, [.int .i64 0, .int .i64 0]⟩),
  (70, ⟨.struct [(0, 45), (1, 3)], 2, 16, [.int .i64 0, .int .i64 0]⟩),
  (73, ⟨.struct [(0, 3), (1, 72)], 5, 40, [.int .i64 0, .int .i64 0, .int .i64 0, .int .i64 0, .int .i64 0]⟩),
  (74, ⟨.struct [(0, 3), (1, 72)], 5, 40, [.int .i64 0, .int .i64 0, .int .i64 0, .int .i64 0, .int .i64 0]⟩),
  (75, ⟨.struct [(0, 5), (1, 23), (2, 5)], 3, 40, [.int .u8 0, .slice none 0 0, .int .u8 0]⟩),
  (76, ⟨.struct [(0, 5), (1, 23), (2, 5)], 3, 40, [.int .u8 0, .slice none 0 0, .int .u8 0]⟩),
  (81, ⟨.struct [(0, 3), (1, 3), (2, 3)], 3, 24, [.int .i64 0, .int .i64 0, .int .i64 0]⟩),
  (82, ⟨.struct [(0, 3), (1, 3), (2, 3)], 3, 24, [.int .i64 0, .int .i64 0, .int .i64 0]⟩),
  (101, ⟨.struct [(0, 42), (5, 97), (6, 32), (7, 33), (8, 100), (9, 3)], 10, 96, [.int .i64 0, .int .i64 0, .int .i64 0, .int .i64 0, .int .i64 0, .pointer none, .pointer none, .slice none 0 0, .pointer none, .int .i64 0]⟩),
  (102, ⟨.struct [(0, 42), (5, 97), (6, 32), (7, 33), (8, 100), (9, 3)], 10, 96, [.int .i64 0, .int .i64 0, .int .i64 0, .int .i64 0, .int .i64 0, .pointer none, .pointer none, .slice none 0 0, .pointer none, .int .i64 0]⟩),
  (108, ⟨.struct [(0, 33), (1, 3), (2, 89)], 3, 56, [.slice none 0 0, .int .i64 0, .slice none 0 0]⟩),
  (109, ⟨.struct [(0, 33), (1, 3), (2, 89)], 3, 56, [.slice none 0 0, .int .i64 0, .slice none 0 0]⟩),
  (116, ⟨.struct [(0, 62), (8, 32), (9, 94), (10, 113), (11, 44), (12, 4), (13, 3)], 14, 112, [.int .i64 0, .int .i64 0, .int .i64 0, .int .i64 0, .int .i64 0, .int .i64 0, .int .i64 0, .int .i64 0, .pointer none, .pointer none, .pointer none, .pointer none, .bool false, .int .i64 0]⟩),
  (117, ⟨.struct [(0, 62), (8, 32), (9, 94), (10, 113), (11, 44), (12, 4), (13, 3)], 14, 112, [.int .i64 0, .int .i64 0, .int .i64 0, .int .i64 0, .int .i64 0, .int .i64 0, .int .i64 0, .int .i64 0, .pointer none, .pointer none, .pointer none, .pointer none, .bool false, .int .i64 0]⟩),
  (124, ⟨.struct [(0, 3), (1, 82), (4, 33)], 5, 56, [.int .i64 0, .int .i64 0, .int .i64 0, .int .i64 0, .slice none 0 0]⟩),
  (125, ⟨.struct [(0, 3), (1, 82), (4, 33)], 5, 56, [.int .i64 0, .int .i64 0, .int .i64 0, .int .i64 0, .slice none 0 0]⟩),
  (135, ⟨.struct [(0, 33), (1, 132), (2, 3)], 3, 40, [.slice none 0 0, .pointer none, .int .i64 0]⟩),
  (136, ⟨.struct [(0, 33), (1, 132), (2, 3)], 3, 40, [.slice none 0 0, .pointer none, .int .i64 0]⟩),
  (145, ⟨.struct [(0, 32), (1, 94), (2, 110), (3, 141), (4, 142), (5, 143), (6, 144), (7, 3), (8, 3), (9, 3)], 10, 112, [.pointer none, .pointer none, .pointer none, .slice none 0 0, .pointer none, .pointer none, .slice none 0 0, .int .i64 0, .int .i64 0, .int .i64 0]⟩),
  (146, ⟨.struct [(0, 32), (1, 94), (2, 110), (3, 141), (4, 142), (5, 143), (6, 144), (7, 3), (8, 3), (9, 3)], 10, 112, [.pointer none, .pointer none, .pointer none, .slice none 0 0, .pointer none, .pointer none, .slice none 0 0, .int .i64 0, .int .i64 0, .int .i64 0]⟩),
  (158, ⟨.struct [(0, 3), (1, 3), (2, 3)], 3, 24, [.int .i64 0, .int .i64 0, .int .i64 0]⟩),
  (159, ⟨.struct [(0, 3), (1, 3), (2, 3)], 3, 24, [.int .i64 0, .int .i64 0, .int .i64 0]⟩),
  (162, ⟨.struct [(0, 97), (1, 3), (2, 3), (3, 157), (4, 3), (5, 3), (6, 159), (9, 4), (10, 3), (11, 157), (12, 161), (13, 3), (14, 3), (15, 3)], 16, 136, [.pointer none, .int .i64 0, .int .i64 0, .nilFunc, .int .i64 0, .int .i64 0, .int .i64 0, .int .i64 0, .int .i64 0, .bool false, .int .i64 0, .nilFunc, .nilIface, .int .i64 0, .int .i64 0, .int .i64 0]⟩),
  (163, ⟨.struct [(0, 97), (1, 3), (2, 3), (3, 157), (4, 3), (5, 3), (6, 159), (9, 4), (10, 3), (11, 157), (12, 161), (13, 3), (14, 3), (15, 3)], 16, 136, [.pointer none, .int .i64 0, .int .i64 0, .nilFunc, .int .i64 0, .int .i64 0, .int .i64 0, .int .i64 0, .int .i64 0, .bool false, .int .i64 0, .nilFunc, .nilIface, .int .i64 0, .int .i64 0, .int .i64 0]⟩),
  (166, ⟨.struct [(0, 164), (1, 32), (2, 132), (3, 132), (4, 165), (5, 3), (6, 3), (7, 3)], 8, 80, [.pointer none, .pointer none, .pointer none, .pointer none, .slice none 0 0, .int .i64 0, .int .i64 0, .int .i64 0]⟩),
  (167, ⟨.struct [(0, 164), (1, 32), (2, 132), (3, 132), (4, 165), (5, 3), (6, 3), (7, 3)], 8, 80, [.pointer none, .pointer none, .pointer none, .pointer none, .slice none 0 0, .int .i64 0, .int .i64 0, .int .i64 0]⟩),
  (170, ⟨.struct [(0, 100), (1, 3), (2, 169), (3, 3), (4, 33), (5, 33), (6, 3), (7, 3), (8, 3), (9, 3), (10, 3), (11, 3), (12, 3)], 13, 136, [.pointer none, .int .i64 0, .nilFunc, .int .i64 0, .slice none 0 0, .slice none 0 0, .int .i64 0, .int .i64 0, .int .i64 0, .int .i64 0, .int .i64 0, .int .i64 0, .int .i64 0]⟩),
  (171, ⟨.struct [(0, 100), (1, 3), (2, 169), (3, 3), (4, 33), (5, 33), (6, 3), (7, 3), (8, 3), (9, 3), (10, 3), (11, 3), (12, 3)], 13, 136, [.pointer none, .int .i64 0, .nilFunc, .int .i64 0, .slice none 0 0, .slice none 0 0, .int .i64 0, .int .i64 0, .int .i64 0, .int .i64 0, .int .i64 0, .int .i64 0, .int .i64 0]⟩),
  (182, ⟨.struct [(0, 181), (1, 3)], 2, 32, [.slice none 0 0, .int .i64 0]⟩),
  (183, ⟨.struct [(0, 181), (1, 3)], 2, 32, [.slice none 0 0, .int .i64 0]⟩),
  (186, ⟨.struct [(0, 32), (1, 33), (2, 3)], 3, 40, [.pointer none, .slice none 0 0, .int .i64 0]⟩),
  (187, ⟨.struct [(0, 32), (1, 33), (2, 3)], 3, 40, [.pointer none, .slice none 0 0, .int .i64 0]⟩),
  (190, ⟨.struct [(0, 32), (1, 33), (2, 189)], 3, 40, [.pointer none, .slice none 0 0, .map none]⟩),
  (191, ⟨.struct [(0, 32), (1, 33), (2, 189)], 3, 40, [.pointer none, .slice none 0 0, .map none]⟩),
  (193, ⟨.struct [(0, 3), (1, 33), (2, 33)], 3, 56, [.int .i64 0, .slice none 0 0, .slice none 0 0]⟩),
  (194, ⟨.struct [(0, 3), (1, 33), (2, 33)], 3, 56, [.int .i64 0, .slice none 0 0, .slice none 0 0]⟩),
  (202, ⟨.struct [(0, 33), (1, 201)], 2, 48, [.slice none 0 0, .slice none 0 0]⟩),
  (203, ⟨.struct [(0, 33), (1, 201)], 2, 48, [.slice none 0 0, .slice none 0 0]⟩),
  (205, ⟨.struct [(0, 132), (1, 3)], 2, 16, [.pointer none, .int .i64 0]⟩),
  (206, ⟨.struct [(0, 132), (1, 3)], 2, 16, [.pointer none, .int .i64 0]⟩),
  (207, ⟨.struct [(0, 132), (1, 89)], 2, 32, [.pointer none, .slice none 0 0]⟩),
  (208, ⟨.struct [(0, 132), (1, 89)], 2, 32, [.pointer none, .slice none 0 0]⟩),
  (209, ⟨.struct [(0, 132), (1, 3)], 2, 16, [.pointer none, .int .i64 0]⟩),
  (210, ⟨.struct [(0, 132), (1, 3)], 2, 16, [.pointer none, .int .i64 0]⟩),
  (216, ⟨.struct [(0, 3), (1, 215), (2, 33)], 3, 56, [.int .i64 0, .slice none 0 0, .slice none 0 0]⟩),
  (217, ⟨.struct [(0, 3), (1, 215), (2, 33)], 3, 56, [.int .i64 0, .slice none 0 0, .slice none 0 0]⟩),
  (218, ⟨.struct [(0, 217), (3, 32), (4, 110)], 5, 72, [.int .i64 0, .slice none 0 0, .slice none 0 0, .pointer none, .pointer none]⟩),
  (219, ⟨.struct [(0, 217), (3, 32), (4, 110)], 5, 72, [.int .i64 0, .slice none 0 0, .slice none 0 0, .pointer none, .pointer none]⟩),
  (247, ⟨.struct [(0, 153), (1, 3), (2, 246), (3, 3), (4, 3), (5, 3), (6, 45)], 7, 56, [.pointer none, .int .i64 0, .nilFunc, .int .i64 0, .int .i64 0, .int .i64 0, .int .i64 0]⟩),
  (248, ⟨.struct [(0, 153), (1, 3), (2, 246), (3, 3), (4, 3), (5, 3), (6, 45)], 7, 56, [.pointer none, .int .i64 0, .nilFunc, .int .i64 0, .int .i64 0, .int .i64 0, .int .i64 0]⟩),
  (254, ⟨.struct [(0, 3), (1, 3), (2, 3), (3, 3), (4, 3)], 5, 40, [.int .i64 0, .int .i64 0, .int .i64 0, .int .i64 0, .int .i64 0]⟩),
  (255, ⟨.struct [(0, 3), (1, 3), (2, 3), (3, 3), (4, 3)], 5, 40, [.int .i64 0, .int .i64 0, .int .i64 0, .int .i64 0, .int .i64 0]⟩),
  (272, ⟨.struct [(0, 142), (1, 3), (2, 4), (3, 3), (4, 3), (5, 3), (6, 4), (7, 45)], 8, 64, [.pointer none, .int .i64 0, .bool false, .int .i64 0, .int .i64 0, .int .i64 0, .bool false, .int .i64 0]⟩),
  (273, ⟨.struct [(0, 142), (1, 3), (2, 4), (3, 3), (4, 3), (5, 3), (6, 4), (7, 45)], 8, 64, [.pointer none, .int .i64 0, .bool false, .int .i64 0, .int .i64 0, .int .i64 0, .bool false, .int .i64 0]⟩),
  (22, ⟨.slice 76, 1, 24, [.slice none 0 0]⟩),
  (23, ⟨.slice 5, 1, 24, [.slice none 0 0]⟩),
  (28, ⟨.slice 49, 1, 24, [.slice none 0 0]⟩),
  (32, ⟨.ptr 109, 1, 8, [.pointer none]⟩),
  (33, ⟨.slice 3, 1, 24, [.slice none 0 0]⟩),
  (34, ⟨.slice 125, 1, 24, [.slice none 0 0]⟩),
  (44, ⟨.ptr 102, 1, 8, [.pointer none]⟩),
  (58, ⟨.ptr 117, 1, 8, [.pointer none]⟩),
  (64, ⟨.slice 194, 1, 24, [.slice none 0 0]⟩),
  (89, ⟨.slice 4, 1, 24, [.slice none 0 0]⟩),
  (94, ⟨.ptr 136, 1, 8, [.pointer none]⟩),
  (97, ⟨.ptr 146, 1, 8, [.pointer none]⟩),
  (100, ⟨.ptr 167, 1, 8, [.pointer none]⟩),
  (110, ⟨.ptr 183, 1, 8, [.pointer none]⟩),
  (113, ⟨.ptr 187, 1, 8, [.pointer none]⟩),
  (132, ⟨.ptr 203, 1, 8, [.pointer none]⟩),
  (141, ⟨.slice 153, 1, 24, [.slice none 0 0]⟩),
  (142, ⟨.ptr 206, 1, 8, [.pointer none]⟩),
  (143, ⟨.ptr 208, 1, 8, [.pointer none]⟩),
  (144, ⟨.slice 156, 1, 24, [.slice none 0 0]⟩),
  (153, ⟨.ptr 210, 1, 8, [.pointer none]⟩),
  (156, ⟨.ptr 163, 1, 8, [.pointer none]⟩),
  (164, ⟨.ptr 219, 1, 8, [.pointer none]⟩),
  (165, ⟨.slice 168, 1, 24, [.slice none 0 0]⟩),
  (168, ⟨.ptr 171, 1, 8, [.pointer none]⟩),
  (181, ⟨.slice 221, 1, 24, [.slice none 0 0]⟩),
  (188, ⟨.ptr 191, 1, 8, [.pointer none]⟩),
  (201, ⟨.slice 255, 1, 24, [.slice none 0 0]⟩),
  (215, ⟨.slice 33, 1, 24, [.slice none 0 0]⟩),
  (231, ⟨.ptr 248, 1, 8, [.pointer none]⟩),
  (263, ⟨.slice 159, 1, 24, [.slice none 0 0]⟩),
  (265, ⟨.ptr 273, 1, 8, [.pointer none]⟩),
  (286, ⟨.ptr 5, 1, 8, [.pointer none]⟩),
  (2, ⟨.int .i64, 1, 8, [.int .i64 0]⟩),
  (21, ⟨.int .i32, 1, 4, [.int .i32 0]⟩),
  (45, ⟨.int .i64, 1, 8, [.int .i64 0]⟩),
  (221, ⟨.int .u64, 1, 8, [.int .u64 0]⟩),
  (224, ⟨.int .u64, 1, 8, [.int .u64 0]⟩),
  (238, ⟨.int .u32, 1, 4, [.int .u32 0]⟩),
  (1, ⟨.func, 1, 8, [.nilFunc]⟩),
  (20, ⟨.iface 0, 1, 16, [.nilIface]⟩),
  (26, ⟨.array 5 5, 5, 5, [.int .u8 0, .int .u8 0, .int .u8 0, .int .u8 0, .int .u8 0]⟩),
  (27, ⟨.array 2 26, 10, 10, [.int .u8 0, .int .u8 0, .int .u8 0, .int .u8 0, .int .u8 0, .int .u8 0, .int .u8 0, .int .u8 0, .int .u8 0, .int .u8 0]⟩),
  (29, ⟨.array 2 28, 2, 48, [.slice none 0 0, .slice none 0 0]⟩),
  (30, ⟨.func, 1, 8, [.nilFunc]⟩),
  (31, ⟨.func, 1, 8, [.nilFunc]⟩),
  (38, ⟨.func, 1, 8, [.nilFunc]⟩),
  (40, ⟨.func, 1, 8, [.nilFunc]⟩),
  (43, ⟨.func, 1, 8, [.nilFunc]⟩),
  (47, ⟨.func, 1, 8, [.nilFunc]⟩),
  (50, ⟨.func, 1, 8, [.nilFunc]⟩),
  (51, ⟨.func, 1, 8, [.nilFunc]⟩),
  (53, ⟨.func, 1, 8, [.nilFunc]⟩),
  (54, ⟨.func, 1, 8, [.nilFunc]⟩),
  (55, ⟨.func, 1, 8, [.nilFunc]⟩),
  (56, ⟨.func, 1, 8, [.nilFunc]⟩),
  (57, ⟨.func, 1, 8, [.nilFunc]⟩),
  (60, ⟨.func, 1, 8, [.nilFunc]⟩),
  (63, ⟨.func, 1, 8, [.nilFunc]⟩),
  (68, ⟨.func, 1, 8, [.nilFunc]⟩),
  (71, ⟨.func, 1, 8, [.nilFunc]⟩),
  (72, ⟨.array 4 3, 4, 32, [.int .i64 0, .int .i64 0, .int .i64 0, .int .i64 0]⟩),
  (78, ⟨.func, 1, 8, [.nilFunc]⟩),
  (80, ⟨.func, 1, 8, [.nilFunc]⟩),
  (84, ⟨.func, 1, 8, [.nilFunc]⟩),
  (85, ⟨.func, 1, 8, [.nilFunc]⟩),
  (86, ⟨.func, 1, 8, [.nilFunc]⟩),
  (88, ⟨.func, 1, 8, [.nilFunc]⟩),
  (90, ⟨.func, 1, 8, [.nilFunc]⟩),
  (92, ⟨.func, 1, 8, [.nilFunc]⟩),
  (93, ⟨.func, 1, 8, [.nilFunc]⟩),
  (95, ⟨.func, 1, 8, [.nilFunc]⟩),
  (96, ⟨.func, 1, 8, [.nilFunc]⟩),
  (99, ⟨.func, 1, 8, [.nilFunc]⟩),
  (103, ⟨.func, 1, 8, [.nilFunc]⟩),
  (105, ⟨.func, 1, 8, [.nilFunc]⟩),
  (106, ⟨.func, 1, 8, [.nilFunc]⟩),
  (107, ⟨.func, 1, 8, [.nilFunc]⟩),
  (111, ⟨.func, 1, 8, [.nilFunc]⟩),
  (112, ⟨.func, 1, 8, [.nilFunc]⟩),
  (115, ⟨.func, 1, 8, [.nilFunc]⟩),
  (118, ⟨.func, 1, 8, [.nilFunc]⟩),
  (119, ⟨.func, 1, 8, [.nilFunc]⟩),
  (120, ⟨.func, 1, 8, [.nilFunc]⟩),
  (121, ⟨.func, 1, 8, [.nilFunc]⟩),
  (122, ⟨.func, 1, 8, [.nilFunc]⟩),
  (123, ⟨.func, 1, 8, [.nilFunc]⟩),
  (127, ⟨.func, 1, 8, [.nilFunc]⟩),
  (128, ⟨.func, 1, 8, [.nilFunc]⟩),
  (129, ⟨.func, 1, 8, [.nilFunc]⟩),
  (130, ⟨.func, 1, 8, [.nilFunc]⟩),
  (131, ⟨.func, 1, 8, [.nilFunc]⟩),
  (134, ⟨.func, 1, 8, [.nilFunc]⟩),
  (137, ⟨.func, 1, 8, [.nilFunc]⟩),
  (138, ⟨.func, 1, 8, [.nilFunc]⟩),
  (139, ⟨.func, 1, 8, [.nilFunc]⟩),
  (140, ⟨.func, 1, 8, [.nilFunc]⟩),
  (148, ⟨.func, 1, 8, [.nilFunc]⟩),
  (150, ⟨.func, 1, 8, [.nilFunc]⟩),
  (152, ⟨.func, 1, 8, [.nilFunc]⟩),
  (155, ⟨.func, 1, 8, [.nilFunc]⟩),
  (157, ⟨.func, 1, 8, [.nilFunc]⟩),
  (160, ⟨.iface 2, 1, 16, [.nilIface]⟩),
  (161, ⟨.iface 2, 1, 16, [.nilIface]⟩),
  (169, ⟨.func, 1, 8, [.nilFunc]⟩),
  (172, ⟨.func, 1, 8, [.nilFunc]⟩),
  (173, ⟨.func, 1, 8, [.nilFunc]⟩),
  (174, ⟨.func, 1, 8, [.nilFunc]⟩),
  (175, ⟨.func, 1, 8, [.nilFunc]⟩),
  (176, ⟨.func, 1, 8, [.nilFunc]⟩),
  (177, ⟨.func, 1, 8, [.nilFunc]⟩),
  (178, ⟨.func, 1, 8, [.nilFunc]⟩),
  (179, ⟨.func, 1, 8, [.nilFunc]⟩),
  (180, ⟨.func, 1, 8, [.nilFunc]⟩),
  (184, ⟨.func, 1, 8, [.nilFunc]⟩),
  (185, ⟨.func, 1, 8, [.nilFunc]⟩),
  (189, ⟨.map 3 3, 1, 8, [.map none]⟩),
  (192, ⟨.func, 1, 8, [.nilFunc]⟩),
  (196, ⟨.func, 1, 8, [.nilFunc]⟩),
  (197, ⟨.func, 1, 8, [.nilFunc]⟩),
  (198, ⟨.func, 1, 8, [.nilFunc]⟩),
  (199, ⟨.func, 1, 8, [.nilFunc]⟩),
  (200, ⟨.func, 1, 8, [.nilFunc]⟩),
  (204, ⟨.func, 1, 8, [.nilFunc]⟩),
  (212, ⟨.func, 1, 8, [.nilFunc]⟩),
  (214, ⟨.func, 1, 8, [.nilFunc]⟩),
  (220, ⟨.func, 1, 8, [.nilFunc]⟩),
  (222, ⟨.func, 1, 8, [.nilFunc]⟩),
  (223, ⟨.func, 1, 8, [.nilFunc]⟩),
  (226, ⟨.func, 1, 8, [.nilFunc]⟩),
  (227, ⟨.array 13 3, 13, 104, [.int .i64 0, .int .i64 0, .int .i64 0, .int .i64 0, .int .i64 0, .int .i64 0, .int .i64 0, .int .i64 0, .int .i64 0, .int .i64 0, .int .i64 0, .int .i64 0, .int .i64 0]⟩),
  (228, ⟨.func, 1, 8, [.nilFunc]⟩),
  (229, ⟨.func, 1, 8, [.nilFunc]⟩),
  (230, ⟨.func, 1, 8, [.nilFunc]⟩),
  (232, ⟨.func, 1, 8, [.nilFunc]⟩),
  (233, ⟨.func, 1, 8, [.nilFunc]⟩),
  (234, ⟨.func, 1, 8, [.nilFunc]⟩),
  (235, ⟨.func, 1, 8, [.nilFunc]⟩),
  (236, ⟨.func, 1, 8, [.nilFunc]⟩),
  (237, ⟨.func, 1, 8, [.nilFunc]⟩),
  (240, ⟨.func, 1, 8, [.nilFunc]⟩),
  (242, ⟨.func, 1, 8, [.nilFunc]⟩),
  (244, ⟨.func, 1, 8, [.nilFunc]⟩),
  (245, ⟨.func, 1, 8, [.nilFunc]⟩),
  (246, ⟨.func, 1, 8, [.nilFunc]⟩),
  (249, ⟨.func, 1, 8, [.nilFunc]⟩),
  (251, ⟨.func, 1, 8, [.nilFunc]⟩),
  (252, ⟨.func, 1, 8, [.nilFunc]⟩),
  (253, ⟨.func, 1, 8, [.nilFunc]⟩),
  (256, ⟨.func, 1, 8, [.nilFunc]⟩),
  (257, ⟨.func, 1, 8, [.nilFunc]⟩),
  (258, ⟨.func, 1, 8, [.nilFunc]⟩),
  (259, ⟨.func, 1, 8, [.nilFunc]⟩),
  (260, ⟨.func, 1, 8, [.nilFunc]⟩),
  (262, ⟨.func, 1, 8, [.nilFunc]⟩),
  (264, ⟨.func, 1, 8, [.nilFunc]⟩),
  (267, ⟨.func, 1, 8, [.nilFunc]⟩),
  (269, ⟨.func, 1, 8, [.nilFunc]⟩),
  (270, ⟨.func, 1, 8, [.nilFunc]⟩),
  (271, ⟨.func, 1, 8, [.nilFunc]⟩),
  (274, ⟨.func, 1, 8, [.nilFunc]⟩),
  (275, ⟨.func, 1, 8, [.nilFunc]⟩),
  (276, ⟨.func, 1, 8, [.nilFunc]⟩),
  (285, ⟨.func, 1, 8, [.nilFunc]⟩),
  (291, ⟨.func, 1, 8, [.nilFunc]⟩)]
theorem tiok : TIok Tryz.prog ti :=
  ⟨by kernel_rfl, by kernel_rfl, by kernel_rfl, by kernel_rfl, by kernel_rfl, by kernel_rfl, by kernel_rfl, by kernel_rfl, by kernel_rfl, by kernel_rfl, by kernel_rfl, by kernel_rfl, by kernel_rfl, by kernel_rfl, by kernel_rfl, by kernel_rfl, by kernel_rfl, by kernel_rfl, by kernel_rfl, by kernel_rfl, by kernel_rfl, by kernel_rfl, by kernel_rfl, by kernel_rfl, by kernel_rfl, by kernel_rfl, by kernel_rfl, by kernel_rfl, by kernel_rfl, by kernel_rfl, by kernel_rfl, by kernel_rfl, by kernel_rfl, by kernel_rfl, by kernel_rfl, by kernel_rfl, by kernel_rfl, by kernel_rfl, by kernel_rfl, by kernel_rfl, by kernel_rfl, by kernel_rfl, by kernel_rfl, by kernel_rfl, by kernel_rfl, by kernel_rfl, by kernel_rfl, by kernel_rfl, by kernel_rfl, by kernel_rfl, by kernel_rfl, by kernel_rfl, by kernel_rfl, by kernel_rfl, by kernel_rfl, by kernel_rfl, by kernel_rfl, by kernel_rfl, by kernel_rfl, by kernel_rfl, by kernel_rfl, by kernel_rfl, by kernel_rfl, by kernel_rfl, by kernel_rfl, by kernel_rfl, by kernel_rfl, by kernel_rfl, by kernel_rfl, by kernel_rfl, by kernel_rfl, by kernel_rfl, by kernel_rfl, by kernel_rfl, by kernel_rfl, by kernel_rfl, by kernel_rfl, by kernel_rfl, by kernel_rfl, by kernel_rfl, by kernel_rfl, by kernel_rfl, by kernel_rfl, by kernel_rfl, by kernel_rfl, by kernel_rfl, by kernel_rfl, by kernel_rfl, by kernel_rfl, by kernel_rfl, by kernel_rfl, by kernel_rfl, by kernel_rfl, by kernel_rfl, by kernel_rfl, by kernel_rfl, by kernel_rfl, by kernel_rfl, by kernel_rfl, by kernel_rfl, by kernel_rfl, by kernel_rfl, by kernel_rfl, by kernel_rfl, by kernel_rfl, by kernel_rfl, by kernel_rfl, by kernel_rfl, by kernel_rfl, by kernel_rfl, by kernel_rfl, by kernel_rfl, by kernel_rfl, by kernel_rfl, by kernel_rfl, by kernel_rfl, by kernel_rfl, by kernel_rfl, by kernel_rfl, by kernel_rfl, by kernel_rfl, by kernel_rfl, by kernel_rfl, by kernel_rfl, by kernel_rfl, by kernel_rfl, by kernel_rfl, by kernel_rfl, by kernel_rfl, by kernel_rfl, by kernel_rfl, by kernel_rfl, by kernel_rfl, by kernel_rfl, by kernel_rfl, by kernel_rfl, by kernel_rfl, by kernel_rfl, by kernel_rfl, by kernel_rfl, by kernel_rfl, by kernel_rfl, by kernel_rfl, by kernel_rfl, by kernel_rfl, by kernel_rfl, by kernel_rfl, by kernel_rfl, by kernel_rfl, by kernel_rfl, by kernel_rfl, by kernel_rfl, by kernel_rfl, by kernel_rfl, by kernel_rfl, by kernel_rfl, by kernel_rfl, by kernel_rfl, by kernel_rfl, by kernel_rfl, by kernel_rfl, by kernel_rfl, by kernel_rfl, by kernel_rfl, by kernel_rfl, by kernel_rfl, by kernel_rfl, by kernel_rfl, by kernel_rfl, by kernel_rfl, by kernel_rfl, by kernel_rfl, by kernel_rfl, by kernel_rfl, by kernel_rfl, by kernel_rfl, by kernel_rfl, by kernel_rfl, by kernel_rfl, by kernel_rfl, by kernel_rfl, by kernel_rfl, by kernel_rfl, by kernel_rfl, by kernel_rfl, by kernel_rfl, by kernel_rfl, by kernel_rfl, by kernel_rfl, by kernel_rfl, by kernel_rfl, by kernel_rfl, by kernel_rfl, by kernel_rfl, by kernel_rfl, by kernel_rfl, by kernel_rfl, by kernel_rfl, by kernel_rfl, by kernel_rfl, by kernel_rfl, by kernel_rfl, by kernel_rfl, by kernel_rfl, by kernel_rfl, by kernel_rfl, by kernel_rfl, by kernel_rfl, by kernel_rfl, by kernel_rfl, by kernel_rfl, by kernel_rfl, by kernel_rfl, by kernel_rfl, by kernel_rfl, by kernel_rfl, by kernel_rfl, by kernel_rfl, by kernel_rfl, by kernel_rfl, by kernel_rfl, by kernel_rfl, by kernel_rfl, by kernel_rfl, by kernel_rfl, by kernel_rfl, by kernel_rfl, by kernel_rfl, by kernel_rfl, by kernel_rfl, by kernel_rfl, by kernel_rfl, by kernel_rfl, by kernel_rfl, trivial⟩
noncomputable abbrev K (N : Nat) (W : World) (fr : List HP) : Ctx := ⟨Tryz.prog, ti, tiok, none, N, [], W, fr⟩
end Go.Proofs.YtfmkjbmogfhpbaaGreatDoor
namespace Go.Sep
open Go.RowKit
section
variable {C : Ctx} {opl rest : List Oper} {Q : Post} {kp : List HP} {ks rx : List Nat} {i : Nat} {g : Regs} {l : List HP} {ty : TypeId} {pos : String} {af : Array Edge} {gd : Option (Nat × Bool)} {d : Tmp} {x c : Operand} {c1 c2 : Code} {φ : Prop} [Decidable φ]
theorem M5_ (h : ev g x = some (.bool (decide φ))) (hw : gw opl g gd = some true) (hN : Nat.blt d C.N = true) (k : (φ → JO C opl Q rest ((d, .bool true) :: g) l) ∧ (¬ φ → JO C opl Q rest ((d, .bool false) :: g) l)) : JO C opl Q (⟨some d, .move x, ty, pos, af, gd⟩ :: rest) g l := M5 h hw hN k.1 k.2
theorem M6_ (h : ev g x = some (.bool (!decide φ))) (hw : gw opl g gd = some true) (hN : Nat.blt d C.N = true) (k : (¬ φ → JO C opl Q rest ((d, .bool true) :: g) l) ∧ (φ → JO C opl Q rest ((d, .bool false) :: g) l)) : JO C opl Q (⟨some d, .move x, ty, pos, af, gd⟩ :: rest) g l := M6 h hw hN k.1 k.2
theorem XM5_ (h : ev g x = some (.bool (decide φ))) (hk : Nat.blt (kindAt ks i) 2 = true) (hw : gw opl g gd = some true) (hN : Nat.blt d C.N = true) (k : (φ → JX C opl Q kp ks rx ((d, .bool true) :: g) l) ∧ (¬ φ → JX C opl Q kp ks rx ((d, .bool false) :: g) l)) : JXO C opl Q kp ks i ⟨some d, .move x, ty, pos, af, gd⟩ rx g l := XM5 h hk hw hN k.1 k.2
theorem XM6_ (h : ev g x = some (.bool (!decide φ))) (hk : Nat.blt (kindAt ks i) 2 = true) (hw : gw opl g gd = some true) (hN : Nat.blt d C.N = true) (k : (¬ φ → JX C opl Q kp ks rx ((d, .bool true) :: g) l) ∧ (φ → JX C opl Q kp ks rx ((d, .bool false) :: g) l)) : JXO C opl Q kp ks i ⟨some d, .move x, ty, pos, af, gd⟩ rx g l := XM6 h hk hw hN k.1 k.2
theorem J_cb_ (h : ev g c = some (.bool (decide φ))) (k : (φ → J C c1 Q g l) ∧ (¬ φ → J C c2 Q g l)) : J C (.cond c c1 c2) Q g l := J_cb h k.1 k.2
theorem J_nb_ (h : ev g c = some (.bool (!decide φ))) (k : (¬ φ → J C c1 Q g l) ∧ (φ → J C c2 Q g l)) : J C (.cond c c1 c2) Q g l := J_nb h k.1 k.2
end
theorem Sgt {P : Prop} (h : P := by repeat (first | exact True.intro | refine And.intro rfl ?_)) : P := h
theorem Mmt {P : Prop} (h : P := by repeat (first | exact .head _ | refine .tail _ ?_)) : P := h
theorem Wka {G R : Prop} (k : R) (s : R → G := by
  intro k
  first | (refine IsO ?_; first | exact JO_nil k | (refine IsG ?_; first | exact G1 rfl rfl k | exact G2 rfl k) | (refine IsMove ?_; first | exact M1 rfl rfl rfl k | exact M2 rfl rfl rfl k | exact M3 rfl rfl rfl k | exact M4 rfl rfl rfl k | exact M5_ rfl rfl rfl k | exact M6_ rfl rfl rfl k) | (refine IsBin ?_; first | exact B1 rfl rfl rfl rfl k | exact B2 rfl rfl rfl rfl k | exact B3 rfl rfl rfl rfl k | exact B4 rfl rfl rfl rfl k | exact B5 rfl rfl rfl rfl k | exact B6 rfl rfl rfl rfl k | exact B7 rfl rfl rfl rfl rfl k | exact B8 rfl rfl rfl rfl rfl k | exact B9 rfl rfl rfl rfl rfl rfl rfl k | exact BA rfl rfl rfl rfl rfl rfl rfl k) | (refine IsConv ?_; exact C1 rfl rfl rfl rfl rfl k) | (refine IsLoad ?_; first | exact L1 rfl rfl rfl rfl k | exact L2 rfl rfl rfl rfl rfl k) | (refine IsStore ?_; exact S1 rfl rfl rfl rfl rfl rfl rfl k) | (refine IsBox ?_; exact N1 rfl rfl rfl rfl k) | (refine IsAlloc ?_; exact N2 rfl rfl rfl rfl k) | (refine IsBuild ?_; exact U1 rfl rfl rfl rfl rfl rfl k) | exact V1 rfl rfl rfl k) | (refine IsAt ?_; first | (with_reducible first | exact T1 k | exact T2 k | exact T3 k | exact T4 k | exact T5 k | exact T6 k | exact T7 k | exact T8 k | exact T9 k | exact TA k | exact TB k | exact TC k) | ((with_reducible show At _ (PBlock _ _ (Exit.exit _)) _ _); first | exact At_block_hit k | exact At_block_miss rfl k)) | (refine IsJ ?_; first | exact J_seq k | exact J_region k | exact J_block k | exact J_skip k | exact J_ret k | exact J_exit k | (refine IsCond ?_; first | exact J_cond_t rfl k | exact J_cond_f rfl k | exact K1 rfl k | exact K2 rfl k | exact K3 rfl k | exact K4 rfl k | exact J_cb_ rfl k | exact J_nb_ rfl k))) : G := s k
theorem Wkb {G R : Prop} (k : R) (s : R → G := by
  intro k
  first | (refine IsO ?_; first | exact JO_nil k | (refine IsG ?_; first | exact G1 rfl rfl k | exact G2 rfl k) | (refine IsMove ?_; first | exact M1 rfl rfl rfl k | exact M2 rfl rfl rfl k | exact M3 rfl rfl rfl k | exact M4 rfl rfl rfl k | exact M5_ rfl rfl rfl k | exact M6_ rfl rfl rfl k) | (refine IsBin ?_; first | exact B1 rfl rfl rfl rfl k | exact B2 rfl rfl rfl rfl k | exact B3 rfl rfl rfl rfl k | exact B4 rfl rfl rfl rfl k | exact B5 rfl rfl rfl rfl k | exact B6 rfl rfl rfl rfl k | exact B7 rfl rfl rfl rfl rfl k | exact B8 rfl rfl rfl rfl rfl k | exact B9 rfl rfl rfl rfl rfl rfl rfl k | exact BA rfl rfl rfl rfl rfl rfl rfl k) | (refine IsConv ?_; exact C1 rfl rfl rfl rfl rfl k) | (refine IsLoad ?_; first | exact L1 rfl rfl rfl rfl k | exact L2 rfl rfl rfl rfl rfl k) | (refine IsStore ?_; exact S1 rfl rfl rfl rfl rfl rfl rfl k) | (refine IsBox ?_; exact N1 rfl rfl rfl rfl k) | (refine IsAlloc ?_; exact N2 rfl rfl rfl rfl k) | (refine IsBuild ?_; exact U1 rfl rfl rfl rfl rfl rfl k) | exact V1 rfl rfl rfl k) | (refine IsAt ?_; first | (with_reducible first | exact T1 k | exact T2 k | exact T3 k | exact T4 k | exact T5 k | exact T6 k | exact T7 k | exact T8 k | exact T9 k | exact TA k | exact TB k | exact TC k) | ((with_reducible show At _ (PBlock _ _ (Exit.exit _)) _ _); first | exact At_block_hit k | exact At_block_miss rfl k)) | (refine IsJ ?_; first | exact J_seq k | exact J_region k | exact J_skip k | exact J_ret k | exact J_exit k | (refine IsCond ?_; first | exact J_cond_t rfl k | exact J_cond_f rfl k | exact K1 rfl k | exact K2 rfl k | exact K3 rfl k | exact K4 rfl k | exact J_cb_ rfl k | exact J_nb_ rfl k))) : G := s k
theorem Wkd {G R : Prop} (k : R) (s : R → G := by
  intro k
  refine IsX ?_; first | exact JX_nil (At_np k) | (refine JX_op rfl ?_; refine XsO ?_; first | (refine XsG ?_; exact XG1 rfl rfl rfl k) | (refine XsMove ?_; first | exact XM1 rfl rfl rfl rfl k | exact XM2 rfl rfl rfl rfl k | exact XM3 rfl rfl rfl rfl k | exact XM4 rfl rfl rfl rfl k | exact XM5_ rfl rfl rfl rfl k | exact XM6_ rfl rfl rfl rfl k) | (refine XsBin ?_; first | exact XB1 rfl rfl rfl rfl rfl k | exact XB2 rfl rfl rfl rfl rfl k | exact XB3 rfl rfl rfl rfl rfl k | exact XB4 rfl rfl rfl rfl rfl k | exact XB5 rfl rfl rfl rfl rfl k | exact XB6 rfl rfl rfl rfl rfl k | exact XB7 rfl rfl rfl rfl rfl rfl k | exact XB8 rfl rfl rfl rfl rfl rfl k | exact XB9 rfl rfl rfl rfl rfl rfl rfl rfl k | exact XBA rfl rfl rfl rfl rfl rfl rfl rfl k) | (refine XsConv ?_; exact XC1 rfl rfl rfl rfl rfl rfl k) | (refine XsLoad ?_; first | exact XL1k rfl rfl rfl rfl rfl k | exact XL2k rfl rfl rfl rfl rfl rfl k | exact XL1 rfl rfl rfl rfl rfl k | exact XL2 rfl rfl rfl rfl rfl rfl k) | (refine XsStore ?_; exact XS1 rfl rfl rfl rfl rfl rfl rfl rfl k) | (refine XsBox ?_; exact XN1 rfl rfl rfl rfl rfl k) | (refine XsAlloc ?_; exact XN2 rfl rfl rfl rfl rfl k) | (refine XsBuild ?_; exact XU1 rfl rfl rfl rfl rfl rfl rfl k) | exact XV1 rfl rfl rfl rfl k)) : G := s k
theorem Wke {G R : Prop} (k : R) (s : R → G := by
  intro k
  refine IsX ?_; first | exact JX_nil (At_np k) | (refine JX_op rfl ?_; refine XsO ?_; first | (refine XsG ?_; exact XG1 rfl rfl rfl k) | (refine XsMove ?_; first | exact XM1 rfl rfl rfl rfl k | exact XM2 rfl rfl rfl rfl k | exact XM3 rfl rfl rfl rfl k | exact XM4 rfl rfl rfl rfl k | exact XM5_ rfl rfl rfl rfl k | exact XM6_ rfl rfl rfl rfl k) | (refine XsBin ?_; first | exact XB1 rfl rfl rfl rfl rfl k | exact XB2 rfl rfl rfl rfl rfl k | exact XB3 rfl rfl rfl rfl rfl k | exact XB4 rfl rfl rfl rfl rfl k | exact XB5 rfl rfl rfl rfl rfl k | exact XB6 rfl rfl rfl rfl rfl k | exact XB7 rfl rfl rfl rfl rfl rfl k | exact XB8 rfl rfl rfl rfl rfl rfl k | exact XB9 rfl rfl rfl rfl rfl rfl rfl rfl k | exact XBA rfl rfl rfl rfl rfl rfl rfl rfl k) | (refine XsConv ?_; exact XC1 rfl rfl rfl rfl rfl rfl k) | (refine XsLoad ?_; first | exact XL1k rfl rfl rfl rfl rfl k | exact XL2k rfl rfl rfl rfl rfl rfl k | exact XL1 rfl rfl rfl rfl rfl k | exact XL2 rfl rfl rfl rfl rfl rfl k) | (refine XsBox ?_; exact XN1 rfl rfl rfl rfl rfl k) | (refine XsAlloc ?_; exact XN2 rfl rfl rfl rfl rfl k) | (refine XsBuild ?_; exact XU1 rfl rfl rfl rfl rfl rfl rfl k) | exact XV1 rfl rfl rfl rfl k)) : G := s k
theorem Wkf {G R : Prop} (k : R) (s : R → G := by
  intro k
  refine IsF ?_; first | exact JF_fin (At_np k) | (refine JF_op rfl ?_; refine FsO ?_; first | (refine FsBin ?_; first | exact FB1 rfl rfl rfl rfl k | exact FB2 rfl rfl rfl rfl k | exact FB3 rfl rfl rfl rfl k | exact FB4 rfl rfl rfl rfl k | exact FB5 rfl rfl rfl rfl k | exact FB6 rfl rfl rfl rfl k | exact FB7 rfl rfl rfl rfl rfl k | exact FB8 rfl rfl rfl rfl rfl k | exact FB9 rfl rfl rfl rfl rfl rfl rfl k | exact FBA rfl rfl rfl rfl rfl rfl rfl k) | (refine FsLoad ?_; first | exact FL1k rfl rfl rfl rfl rfl k | exact FL2k rfl rfl rfl rfl rfl rfl k) | (refine FsBuild ?_; exact FU1 rfl rfl rfl rfl rfl rfl k) | exact FV1 rfl rfl rfl k)) : G := s k
end Go.Sep
namespace Go.Proofs.YtfmkjbmogfhpbaaGreatDoor
open Go.Sep
abbrev headV (k n p : Int) : Value := .agg #[.int .i64 k, .int .i64 n, .int .i64 p]
def goodB (k n p : Int) : Bool := decide (0 ≤ k ∧ k ≤ 15 ∧ 0 ≤ n ∧ n ≤ 4095 ∧ 0 ≤ p ∧ p ≤ n ∧ (k ≠ 15 ∨ p = 0))
def packI (k n p : Int) : Int := k + 16 * (p + 4096 * n)
def In64 (n : Int) : Prop := -9223372036854775808 ≤ n ∧ n ≤ 9223372036854775807
set_option maxHeartbeats 1000000 in
theorem good_spec (k n p : Int) : Does Tryz.prog 98 [headV k n p] [] (fun v l => v = .bool (goodB k n p) ∧ l = []) := by
  refine Does.of tiok Tryz.func98 (by kernel_rfl) rfl Tryz.ntmps98 rfl ?_
  intro W fr
  repeat' (first | refine Wka ?_ | intro _ | apply And.intro)
  all_goals refine At_ret1 rfl rfl rfl (is := []) rfl ⟨?_, rfl⟩
  all_goals (refine congrArg Value.bool ?_; unfold goodB; first | exact (decide_eq_true (by omega)).symm | exact (decide_eq_false (by omega)).symm | exact decide_eq_decide.2 (by omega))
set_option maxHeartbeats 1000000 in
theorem Pack_spec (k n p : Int) : Does Tryz.prog 53 [headV k n p] [] (fun v l => v = .tuple #[.int .i64 (if goodB k n p then packI k n p else 0), .int .i64 (if goodB k n p then 0 else 1)] ∧ l = []) := by
  refine Does.of tiok Tryz.func53 (by kernel_rfl) rfl Tryz.ntmps53 rfl ?_
  intro W fr
  repeat' (first | refine Wka ?_ | intro _ | apply And.intro)
  refine JO_l (OL_call [] rfl rfl rfl (good_spec _ _ _) rfl) rfl rfl ?_; rintro _ _ ⟨_, ⟨rfl, rfl⟩, rfl⟩
  cases hg : goodB k n p
  · repeat' (first | refine Wka ?_ | intro _ | apply And.intro)
    exact At_ret2 rfl rfl rfl rfl (is := []) rfl ⟨rfl, rfl⟩
  · have hg' := of_decide_eq_true hg
    repeat' (first | refine Wka ?_ | intro _ | apply And.intro)
    exact At_ret2 rfl rfl rfl rfl (is := []) rfl ⟨rfl, rfl⟩
theorem Pack_good {k n p : Int} (h : goodB k n p = true) : Does Tryz.prog 53 [headV k n p] [] (fun v l => v = .tuple #[.int .i64 (packI k n p), .int .i64 0] ∧ l = []) :=
  (Pack_spec k n p).to (by rw [if_pos h, if_pos h])
def unK (w : Int) : Int := w % 16
def unP (w : Int) : Int := w / 16 % 4096
def unN (w : Int) : Int := w / 16 / 4096
def wordB (w : Int) : Bool := decide (0 ≤ w) && goodB (unK w) (unN w) (unP w)
def unV (w : Int) : Value := if wordB w then headV (unK w) (unN w) (unP w) else headV 0 0 0
set_option maxHeartbeats 1000000 in
theorem Unpack_spec (w : Int) (hw : In64 w) : Does Tryz.prog 110 [.int .i64 w] [] (fun v l => v = .tuple #[unV w, .int .i64 (if wordB w then 0 else 2)] ∧ l = []) := by
  obtain ⟨h1, h2⟩ := hw
  refine Does.of tiok Tryz.func110 (by kernel_rfl) rfl Tryz.ntmps110 rfl ?_
  intro W fr
  repeat' (first | refine Wka ?_ | intro _ | apply And.intro)
  · have e : wordB w = false := by unfold wordB; rw [decide_eq_false (by omega)]; rfl
    exact At_ret rfl rfl (.agg rfl rfl rfl Mmt rfl (.tmp rfl .nil)) rfl (is := []) rfl ⟨by unfold unV; rw [e]; rfl, rfl⟩
  · refine JO_l (OL_call [] rfl rfl rfl (good_spec _ _ _) rfl) rfl rfl ?_; rintro _ _ ⟨_, ⟨rfl, rfl⟩, rfl⟩
    have h0 : 0 ≤ w := by omega
    cases hg : goodB (w % 16) (w / 16 / 4096) (w / 16 % 4096)
    · have e : wordB w = false := by unfold wordB unK unN unP; rw [hg]; simp
      repeat' (first | refine Wka ?_ | intro _ | apply And.intro)
      exact At_ret rfl rfl (.agg rfl rfl rfl Mmt rfl (.tmp rfl .nil)) rfl (is := []) rfl ⟨by unfold unV; rw [e]; rfl, rfl⟩
    · have e : wordB w = true := by unfold wordB unK unN unP; rw [hg, decide_eq_true h0]; rfl
      repeat' (first | refine Wka ?_ | intro _ | apply And.intro)
      exact At_ret rfl rfl (.agg rfl rfl rfl Mmt rfl (.tmp rfl .nil)) rfl (is := []) rfl ⟨by unfold unV; rw [e]; rfl, rfl⟩
theorem Unpack_good {w : Int} (hw : In64 w) (h : wordB w = true) : Does Tryz.prog 110 [.int .i64 w] [] (fun v l => v = .tuple #[headV (unK w) (unN w) (unP w), .int .i64 0] ∧ l = []) :=
  (Unpack_spec w hw).to (by unfold unV; rw [if_pos h, if_pos h])
theorem Unpack_bad {w : Int} (hw : In64 w) (h : wordB w = false) : Does Tryz.prog 110 [.int .i64 w] [] (fun v l => v = .tuple #[headV 0 0 0, .int .i64 2] ∧ l = []) :=
  (Unpack_spec w hw).to (by unfold unV; rw [h]; rfl)
theorem packI_un {k n p : Int} (h : goodB k n p = true) : In64 (packI k n p) ∧ wordB (packI k n p) = true ∧ unK (packI k n p) = k ∧ unN (packI k n p) = n ∧ unP (packI k n p) = p := by
  have hg := of_decide_eq_true h
  have e1 : unK (packI k n p) = k := by unfold unK packI; omega
  have e2 : unN (packI k n p) = n := by unfold unN packI; omega
  have e3 : unP (packI k n p) = p := by unfold unP packI; omega
  have e0 : wordB (packI k n p) = true := by
    unfold wordB; rw [e1, e2, e3, h, decide_eq_true (by unfold packI; omega)]; rfl
  exact ⟨⟨by unfold packI; omega, by unfold packI; omega⟩, e0, e1, e2, e3⟩
theorem un_packI {w : Int} (h : wordB w = true) : packI (unK w) (unN w) (unP w) = w ∧ goodB (unK w) (unN w) (unP w) = true ∧ 0 ≤ w := by
  unfold wordB at h
  obtain ⟨h0, h1⟩ := Bool.and_eq_true_iff.1 h
  have h0 : 0 ≤ w := of_decide_eq_true h0
  exact ⟨by unfold packI unK unN unP; omega, h1, h0⟩
open Go.Sep Go.ChangeShapes Go.WideShapes Go.ChangeAt Go.RowKit
theorem ownGodebug : ownKnob Tryz.prog.godebug = none := by kernel_rfl
theorem laidOut : laidOutB Tryz.prog = true := by kernel_rfl
end Go.Proofs.YtfmkjbmogfhpbaaGreatDoor
namespace Go.Sep
open Go.ChangeShapes Go.WideShapes Go.ChangeAt Go.RowKit Go.Joins Go.Deep
section
variable {H : Type} {enc : TypeId × Value → H} {P : Program} {W : World} {base : Nat} {sp : Nat → Bool} {held : Bool}
end
theorem flat_take {α : Type} {f : α → List Value} {sz : Nat} {ys : List α} (hf : ∀ y ∈ ys, (f y).length = sz) {i : Nat} {y : α} (h : ys[i]? = some y) : takeL (ys.flatMap f) (i * sz) sz = some (f y) := by
  have hi := (List.getElem?_eq_some_iff.1 h).1
  have hl := flat_len hf
  have hy : (f y).length = sz := hf y (List.mem_of_getElem? h)
  have hle : i * sz + sz ≤ ys.length * sz := by
    have := Nat.mul_le_mul_right sz hi
    rw [Nat.succ_eq_add_one, Nat.add_mul, Nat.one_mul] at this; exact this
  rw [takeL_eq (by omega)]
  congr 1
  apply List.ext_getElem?
  intro r
  by_cases hr : r < sz
  · rw [List.getElem?_take_of_lt hr, List.getElem?_drop, flat_get hf h hr]
  · rw [List.getElem?_eq_none (l := f y) (by omega), List.getElem?_eq_none]
    simp; omega
open Go.ChangeShapes Go.WideShapes Go.ChangeAt Go.RowKit Go.Joins Go.Deep
section
variable {H : Type} {enc : TypeId × Value → H} {P : Program} {W : World} {base : Nat} {sp : Nat → Bool} {held : Bool}
theorem open_sliceC {α : Type} (f : α → List Value) (Q : α → Prop) {t e sz fuel : Nat} {cs0 : List Value} {x0 : DataW H × List MemPlace} (ht : P.underlying t = some (.slice e)) (hsz : P.cellsOf e = sz) (hpos : 0 < sz)
    (rd : ∀ n cs x, cs.length = sz → DataW.trod enc P W base sp held n e cs = some x → ∃ y, cs = f y ∧ Q y) (hf : DataW.trod enc P W base sp held fuel t cs0 = some x0) :
    ∃ a m cap, ∃ ys : List α, cs0 = [.slice a m cap] ∧ ys.length = m ∧ Reads (Low W) sz m a cap (ys.flatMap f) ∧ (∀ y ∈ ys, Q y) ∧ m ≤ cap ∧ cap ≤ maxLen := by
  rcases DataW.trod_slice ht hf with ⟨hc, _⟩ | ⟨a', len, cap', elems, rest, n, _, hc, _, hb, hlc, hcm, hlen, hel, _⟩
  · subst hc
    exact ⟨none, 0, 0, [], rfl, rfl, Reads.nil, (fun y hy => by cases hy), Nat.le_refl _, by decide⟩
  · subst hc
    obtain ⟨m, hm0⟩ : ∃ m, m = len := ⟨_, rfl⟩
    obtain ⟨cap, hc0⟩ : ∃ c, c = cap' := ⟨_, rfl⟩
    subst hm0 hc0
    have key : ∀ i, i < m → ∃ y, Q y ∧ (f y).length = sz ∧ a'.block < W.heap.size ∧ ∀ j, j < sz → W.cell? ((a'.add (i * sz)).add j) = (f y)[j]? := by
      intro i hi
      have h1 := hel i hi
      rw [hsz] at h1
      obtain ⟨x, hx⟩ : ∃ x, elems[i]? = some x := ⟨elems[i]'(by omega), List.getElem?_eq_getElem _⟩
      rw [hx] at h1
      obtain ⟨cs, hcs, hxx⟩ := Option.bind_eq_some_iff.1 h1
      obtain ⟨_, hl, hcell⟩ := World.cells?_some hcs
      obtain ⟨y, rfl, hy⟩ := rd _ _ _ hl hxx
      have e : (a'.add (i * sz)).block = a'.block := by unfold Addr.add; split <;> rfl
      have hbk := World.cells?_block hcs hpos
      rw [e] at hbk
      exact ⟨y, hy, hl, hbk, hcell⟩
    obtain ⟨ys, hyl, hys⟩ := exists_list m key
    have hQ : ∀ y ∈ ys, Q y ∧ (f y).length = sz := fun y hy => by
      obtain ⟨i, hi⟩ := List.getElem?_of_mem hy
      exact ⟨(hys i y hi).1, (hys i y hi).2.1⟩
    refine ⟨some a', m, cap, ys, rfl, hyl, ?_, fun y hy => (hQ y hy).1, hlc, hcm⟩
    obtain ⟨b, o, spot⟩ := a'
    refine ⟨by rw [flat_len fun y hy => (hQ y hy).2, hyl], (fun h => by cases h), fun W' l w hs hm i hi => ?_⟩
    have hq : i / sz < m := (Nat.div_lt_iff_lt_mul hpos).2 hi
    obtain ⟨y, hy⟩ : ∃ y, ys[i / sz]? = some y := ⟨ys[i / sz]'(by omega), List.getElem?_eq_getElem _⟩
    obtain ⟨_, hfl, hbk, hcell⟩ := hys _ _ hy
    have hr : i % sz < sz := Nat.mod_lt _ hpos
    have h1 := hcell _ hr
    have hi' : i / sz * sz + i % sz = i := by rw [Nat.mul_comm]; exact Nat.div_add_mod ..
    have h2 := flat_get (f := f) (fun y hy => (hQ y hy).2) hy hr
    rw [hi'] at h2
    have hsp : spot = none := by
      cases spot with
      | none => rfl
      | some k =>
        obtain ⟨y0, hy0⟩ : ∃ y, ys[0]? = some y := ⟨ys[0]'(by rw [hyl]; exact Nat.lt_of_le_of_lt (Nat.zero_le _) hq), List.getElem?_eq_getElem _⟩
        obtain ⟨_, hfl0, _, hcell0⟩ := hys _ _ hy0
        have h0 := hcell0 0 hpos
        have e0 : ((⟨b, o, some k⟩ : Addr).add (0 * sz)).add 0 = ⟨b, o, some k⟩ := by simp [Addr.add]
        rw [e0] at h0
        have : W.cell? ⟨b, o, some k⟩ = none := by simp [World.cell?]; split <;> simp
        rw [this, List.getElem?_eq_getElem (by omega)] at h0
        cases h0
    subst hsp
    have h3 : W.cell? ⟨b, o + i, none⟩ = (ys.flatMap f)[i]? := by
      rw [h2, ← h1, addr_add, addr_add]; congr 2; omega
    refine ⟨b, o, rfl, ?_⟩
    rw [← h3]
    exact World.cell?_of_block (w := W) (hs.low hm hbk)
structure ND where
  k : Int
  es : List Int
  ea : Option Addr
  ec : Nat
  m : Int
abbrev u8V (zs : List Int) : List Value := zs.map (Value.int .u8)
abbrev cellsN (y : ND) : List Value := [.int .u8 y.k, .slice y.ea y.es.length y.ec, .int .u8 y.m]
structure NOk (R : HP) (y : ND) : Prop where
  k0 : 0 ≤ y.k
  k1 : y.k ≤ 255
  m0 : 0 ≤ y.m
  m1 : y.m ≤ 255
  eb : ∀ z ∈ y.es, 0 ≤ z ∧ z ≤ 255
  rd : Reads R 1 y.es.length y.ea y.ec (u8V y.es)
structure GG where
  ns : List ND
  na : Option Addr
  nc : Nat
  rs : List Int
  ra : Option Addr
  rc : Nat
abbrev gV (g : GG) : Value := .agg #[.slice g.na g.ns.length g.nc, .slice g.ra g.rs.length g.rc]
structure GOk (R : HP) (g : GG) : Prop where
  nd : ∀ y ∈ g.ns, NOk R y
  rn : Reads R 3 g.ns.length g.na g.nc (g.ns.flatMap cellsN)
  nl : g.ns.length ≤ 9223372036854775807
  rr : Reads R 1 g.rs.length g.ra g.rc (u8V g.rs)
  rb : ∀ z ∈ g.rs, 0 ≤ z ∧ z ≤ 255
  rl : g.rs.length ≤ 9223372036854775807
theorem u8_wf {z : Int} (h : (Lit.int .u8 z).wf = true) : 0 ≤ z ∧ z ≤ 255 := bounds_u8 h
theorem open_u8C {t e fuel : Nat} {cs : List Value} {x : DataW H × List MemPlace} (ht : P.underlying t = some (.slice e)) (he : P.underlying e = some (.int .u8)) (hsz : P.cellsOf e = 1) (h : DataW.trod enc P W base sp held fuel t cs = some x) :
    ∃ a cap, ∃ zs : List Int, cs = [.slice a zs.length cap] ∧ Reads (Low W) 1 zs.length a cap (u8V zs) ∧ (∀ z ∈ zs, 0 ≤ z ∧ z ≤ 255) ∧ zs.length ≤ 9223372036854775807 := by
  obtain ⟨a, m, cap, zs, rfl, rfl, h1, h2, h3, h4⟩ := open_sliceC (fun z => [Value.int .u8 z]) (fun z => (Lit.int .u8 z).wf = true) ht hsz (by decide) (fun n cs x hl hx => by
    obtain ⟨c, rfl⟩ := List.length_eq_one_iff.1 hl
    obtain ⟨m, rfl, hm⟩ := trod_int he hx
    exact ⟨m, rfl, hm⟩) h
  rw [flat_map] at h1
  exact ⟨a, cap, zs, rfl, h1, fun z hz => u8_wf (h2 z hz), Nat.le_trans h3 (Nat.le_trans h4 (by decide))⟩
theorem open_graph {r : Reach} {b0 : Nat} {t e tu : Nat} {f0 f1 n0 n1 n2 : Field} {v : Value} {d : DataW H} {p : List MemPlace} (hu : P.underlying t = some (.struct #[f0, f1])) (hC : P.cellsOf t = 2) (o0 : f0.offset = 0) (o1 : f1.offset = 1) (c0 : P.cellsOf f0.type = 1) (c1 : P.cellsOf f1.type = 1)
    (hn : P.underlying f0.type = some (.slice e)) (hs1 : P.underlying f1.type = some (.slice tu)) (hu8 : P.underlying tu = some (.int .u8)) (hc8 : P.cellsOf tu = 1)
    (he : P.underlying e = some (.struct #[n0, n1, n2])) (hce : P.cellsOf e = 3) (q0 : n0.offset = 0) (q1 : n1.offset = 1) (q2 : n2.offset = 2) (d0 : P.cellsOf n0.type = 1) (d1 : P.cellsOf n1.type = 1) (d2 : P.cellsOf n2.type = 1)
    (u0 : P.underlying n0.type = some (.int .u8)) (u1 : P.underlying n1.type = some (.slice tu)) (u2 : P.underlying n2.type = some (.int .u8))
    (hv : Value.okWide P W r b0 t v) (h : DataW.Trod enc P W base sp held t v d p) : ∃ g : GG, v = gV g ∧ GOk (Low W) g := by
  obtain ⟨cs, rfl, hs⟩ := okWide_struct hu hv
  obtain ⟨fuel, hf⟩ := h
  have hcs : (Value.cells (.agg cs)).toList = cs.toList := by simp [Value.cells]
  rw [hcs] at hf
  obtain ⟨y0, y1, m, _, hl, g0, g1⟩ := trod_struct2 hu hf
  obtain ⟨x0, x1, hc⟩ : ∃ c0 c1, cs.toList = [c0, c1] := by
    rw [hC] at hl
    match hm : cs.toList, hl with
    | [a, b], _ => exact ⟨a, b, rfl⟩
  rw [hc, o0, c0] at g0
  rw [hc, o1, c1] at g1
  obtain ⟨ra, rc, rs, e1, r1, r2, r3⟩ := open_u8C hs1 hu8 hc8 g1
  obtain ⟨na, nm, nc, ns, e0, rfl, k1, k2, k3, k4⟩ := open_sliceC cellsN (NOk (Low W)) hn hce (by decide) (fun n cs x hl hx => by
    obtain ⟨z0, z1, z2, m2, _, _, a0, a1, a2⟩ := trod_struct3 he hx
    obtain ⟨v0, v1, v2, rfl⟩ : ∃ a b c, cs = [a, b, c] := by
      match cs, hl with
      | [a, b, c], _ => exact ⟨a, b, c, rfl⟩
    rw [q0, d0] at a0
    rw [q1, d1] at a1
    rw [q2, d2] at a2
    obtain ⟨i0, rfl, w0⟩ := trod_int u0 (v := v0) a0
    obtain ⟨i2, rfl, w2⟩ := trod_int u2 (v := v2) a2
    obtain ⟨ea, ec, es, ee, b1, b2, _⟩ := open_u8C u1 hu8 hc8 a1
    injection ee with ee
    subst ee
    exact ⟨⟨i0, es, ea, ec, i2⟩, rfl, ⟨(u8_wf w0).1, (u8_wf w0).2, (u8_wf w2).1, (u8_wf w2).2, b2, b1⟩⟩) g0
  injection e0 with e0
  injection e1 with e1
  subst e0 e1
  refine ⟨⟨ns, na, nc, rs, ra, rc⟩, ?_, ⟨k2, k1, Nat.le_trans k3 (Nat.le_trans k4 (by decide)), r1, r2, r3⟩⟩
  congr 1
  apply Array.ext'
  exact hc
end
end Go.Sep
namespace Go.Proofs.YtfmkjbmogfhpbaaGreatDoor
open Go.Sep Go.ChangeShapes Go.WideShapes Go.ChangeAt Go.RowKit
set_option maxRecDepth 100000 in
theorem open_gg {H : Type} {enc : TypeId × Value → H} {W : World} {base b0 : Nat} {sp : Nat → Bool} {held : Bool} {r : Reach} {v : Value} {d : DataW H} {p : List MemPlace} (hv : Value.okWide Tryz.prog W r b0 25 v)
    (h : DataW.Trod enc Tryz.prog W base sp held 25 v d p) : ∃ g : GG, v = gV g ∧ GOk (Low W) g :=
  open_graph Tryz.underlying25 (by kernel_rfl) rfl rfl (by kernel_rfl) (by kernel_rfl) Tryz.underlying22 Tryz.underlying23 Tryz.underlying5 (by kernel_rfl)
    Tryz.underlying76 (by kernel_rfl) rfl rfl rfl (by kernel_rfl) (by kernel_rfl) (by kernel_rfl) Tryz.underlying5 Tryz.underlying23 Tryz.underlying5 hv h
end Go.Proofs.YtfmkjbmogfhpbaaGreatDoor
namespace Go.Sep
open Go.ChangeShapes Go.WideShapes Go.ChangeAt Go.RowKit Go.Joins Go.Deep
theorem law_lifted_laid {C : Checked} {f : FuncId} {fn : Func} {s : ChangeSpec} {H : Type} {enc : TypeId × Value → H} {laid : List (String × DataW Unit)} (own : ownKnob C.prog.godebug = none) (os : Os) (started : os.Started) (noInit : C.prog.inits.idxOf? f = none) (hfn : C.prog.funcs[f]? = some fn)
    (hl : laidOutB C.prog = true) (hts : (fn.params.toList.all fun t => C.prog.readableRec t && Nat.blt t C.prog.types.size) = true) {tb : TypeId} (hr : fn.resultTypes = #[tb]) (hb : C.prog.underlying tb = some .bool) (hv : s.vars = [])
    (hfs : ∀ ds : List (DataW H), ds.length = fn.params.toList.length → s.fn H ds = { results := [.lit (.bool true)], args := ds })
    (witness : ∃ (w : World) (tape : Tape) (i : Input), w.os = os ∧ (w.forCall tape i).Shaped C.prog ∧ i.vars = [] ∧ Input.okWide C.prog (w.forCall tape i) .any w.heap.size f i ∧
      ((s.pre enc C.prog fn [] false (w.forCall tape i).memory i.args ∧ laidMet C.prog laid (w.forCall tape i).memory) ∧ sizedMet enc C.prog fn (OpenSpec.ofChange s) false (w.forCall tape i).memory i.args) ∧ ({} : Assume).holds C.prog (lone (Frame.enter C.prog f i.args .normal) [] (w.forCall tape i)))
    (call : ∀ (W : World) (base : Nat) (args : Array Value) (ds : List (DataW H)) (ps : List MemPlace), (∀ (j : Nat) t v, fn.params[j]? = some t → args[j]? = some v → Value.okWide C.prog W .any base t v) →
      DataW.TrodAll enc C.prog W 0 (fun _ => true) true fn.params.toList args.toList ds ps → laidMet C.prog laid W → Calls C.prog f args W fun e W' => e = .returned (.bool true) ∧ Below W.heap.size W W') :
    ReturnsInHanded {} C os f .any (fun w args => (s.pre enc C.prog fn [] false w args ∧ laidMet C.prog laid w) ∧ sizedMet enc C.prog fn (OpenSpec.ofChange s) false w args) (s.post enc C.prog fn false true false false) := by
  refine returnsInHanded_of_change_and (X := fun w _ => laidMet C.prog laid w) (fun _ _ _ hh h => h.of_heap hh) own started noInit hfn witness ?_
  intro W base args ds gs before hval hW _ _ hL _
  have hW' := hW
  obtain ⟨p, q, hA, hV, rfl, hfz, hnd⟩ := hW
  rw [hv] at hV
  obtain ⟨rfl, rfl⟩ := trodVars_none hV
  refine (call W base args ds p hval hA hL).mono fun e W' ⟨he, bel⟩ => ?_
  subst he
  have hlen := trodAll_len hA
  refine ⟨_, rfl, ds, [], p ++ [], [], p, [], hW', ?_, ?_, ?_, bel.frame _, fun h => by cases h⟩
  · rw [List.append_nil, hfs ds hlen, hr]
    exact trodAll_mk1 (shut_bool hb true)
  · rw [List.append_nil, hfs ds hlen]
    exact trodAll_below hl bel hts hA fun x hx => hW'.lt x (List.mem_append_left _ hx)
  · rw [List.append_nil, hfs ds hlen, hv]
    rfl
theorem reads_laid {P : Program} {W : World} {name : String} {g n : Nat} {t e : TypeId} {ns : List Int} (hg : P.globalNamed name = some g) (htp : (P.globals[g]?).map (·.type) = some t) (ht : P.underlying t = some (.array n e)) (he : P.underlying e = some (.int .i64)) (hC : P.cellsOf t = n) (hE : P.cellsOf e = 1)
    (h : laidMet P [(name, .agg (ns.map fun z => .lit (.int .i64 z)))] W) : Reads (Low W) 1 n (some ⟨g, 0, none⟩) n (ns.map fun z => Value.int .i64 z) := by
  obtain ⟨ps, ⟨g', t', cs, fuel, p, q, hg', ht', hvar, hd, _, _⟩, _⟩ := h
  obtain rfl := Option.some.inj (hg.symm.trans hg')
  obtain rfl := Option.some.inj (htp.symm.trans ht')
  obtain ⟨xs, m, _, hx, hl, hxl, hget⟩ := DataW.trod_array ht hd
  obtain ⟨hx1, _⟩ := Prod.mk.inj hx
  have hx2 : ns.map (fun z => (DataW.lit (.int .i64 z) : DataW Unit)) = xs.map (·.1) := by injection hx1
  have hnl : ns.length = n := by
    have := congrArg List.length hx2
    rw [List.length_map, List.length_map] at this
    omega
  have hcl : cs.toList.length = n := by rw [hl, hC]
  have key : ∀ j, j < n → cs[j]? = (ns.map fun z => Value.int .i64 z)[j]? := by
    intro j hj
    have hq := hget j hj
    rw [hE, Nat.mul_one] at hq
    obtain ⟨v, hv⟩ : ∃ v, cs.toList[j]? = some v := ⟨cs.toList[j]'(by omega), List.getElem?_eq_getElem _⟩
    have e1 : (cs.toList.drop j).take 1 = [v] := by
      have hi' : j < cs.toList.length := by omega
      rw [List.drop_eq_getElem_cons hi', List.take_succ_cons, List.take_zero]
      rw [List.getElem?_eq_getElem hi'] at hv
      injection hv with hv
      rw [hv]
    rw [e1] at hq
    obtain ⟨x, hxj⟩ : ∃ x, xs[j]? = some x := ⟨xs[j]'(by omega), List.getElem?_eq_getElem _⟩
    rw [hxj] at hq
    obtain ⟨s, hcs, hxx, _⟩ := DataW.trod_int he hq
    have hz := congrArg (fun l => l[j]?) hx2
    simp only [List.getElem?_map, hxj, Option.map_some, hxx] at hz
    obtain ⟨z, hzj⟩ : ∃ z, ns[j]? = some z := ⟨ns[j]'(by omega), List.getElem?_eq_getElem _⟩
    rw [hzj] at hz
    have hzs : z = s := by simpa using hz
    have hv2 : v = .int .i64 s := by simpa using hcs
    rw [List.getElem?_map, hzj, hzs]
    show cs[j]? = some (Value.int .i64 s)
    rw [← hv2]
    simpa using hv
  refine Reads.low (fun hn => ?_) (by simp [hnl]) (fun j hj => ?_)
  · have h0 := World.var?_cell hg hvar 0
    have h1 := key 0 (by omega)
    obtain ⟨z, hzj⟩ : ∃ z, ns[0]? = some z := ⟨ns[0]'(by omega), List.getElem?_eq_getElem _⟩
    rw [h1, List.getElem?_map, hzj] at h0
    apply Classical.byContradiction
    intro hb
    have : W.heap[g]? = none := Array.getElem?_eq_none (by omega)
    simp [World.cell?, this] at h0
  · rw [Nat.zero_add, World.var?_cell hg hvar j]
    exact key j (by omega)
open Go.ChangeShapes Go.WideShapes Go.ChangeAt Go.RowKit Go.Joins Go.Deep
section
variable {H : Type} {enc : TypeId × Value → H} {P : Program} {W : World} {base : Nat} {sp : Nat → Bool} {held : Bool}
theorem open_arrC {n fuel : Nat} {k : IntKind} {t e : TypeId} {cs : List Value} {x : DataW H × List MemPlace} (ht : P.underlying t = some (.array n e)) (he : P.underlying e = some (.int k)) (hC : P.cellsOf t = n) (hE : P.cellsOf e = 1)
    (h : DataW.trod enc P W base sp held fuel t cs = some x) : ∃ ns : List Int, cs = ns.map (Value.int k) ∧ ns.length = n ∧ ∀ z ∈ ns, (Lit.int k z).wf = true := by
  obtain ⟨xs, m, _, _, hl, hxl, hget⟩ := DataW.trod_array ht h
  have hln : cs.length = n := hl.trans hC
  have key : ∀ i, i < n → ∃ z : Int, (Lit.int k z).wf = true ∧ cs[i]? = some (.int k z) := by
    intro i hi
    have g := hget i hi
    rw [hE, Nat.mul_one, List.getElem?_eq_getElem (by omega)] at g
    obtain ⟨v, hv⟩ : ∃ v, cs[i]? = some v := ⟨cs[i]'(by omega), List.getElem?_eq_getElem _⟩
    have e : (cs.drop i).take 1 = [v] := by
      have hi' : i < cs.length := by omega
      rw [List.drop_eq_getElem_cons hi', List.take_succ_cons, List.take_zero]
      rw [List.getElem?_eq_getElem hi'] at hv
      injection hv with hv
      rw [hv]
    rw [e] at g
    obtain ⟨z, rfl, wz⟩ := trod_int he (n := m) (v := v) g
    exact ⟨z, wz, hv⟩
  obtain ⟨ns, hnl, hns⟩ := exists_list n key
  refine ⟨ns, ?_, hnl, fun z hz => ?_⟩
  · refine List.ext_getElem? fun i => ?_
    rw [List.getElem?_map]
    by_cases hi : i < n
    · obtain ⟨z, hz⟩ : ∃ z, ns[i]? = some z := ⟨ns[i]'(by omega), List.getElem?_eq_getElem _⟩
      rw [hz, (hns i z hz).2]
      rfl
    · rw [List.getElem?_eq_none (by omega), List.getElem?_eq_none (by omega)]
      rfl
  · obtain ⟨i, hi⟩ := List.getElem?_of_mem hz
    exact (hns i z hi).1
theorem open_arr2 {r : Reach} {b0 n : Nat} {k : IntKind} {t t1 e : TypeId} {v : Value} {d : DataW H} {p : List MemPlace} (ht : P.underlying t = some (.array 2 t1)) (ht1 : P.underlying t1 = some (.array n e)) (he : P.underlying e = some (.int k)) (hC : P.cellsOf t = 2 * n) (hC1 : P.cellsOf t1 = n) (hE : P.cellsOf e = 1)
    (hv : Value.okWide P W r b0 t v) (h : DataW.Trod enc P W base sp held t v d p) :
    ∃ az bz : List Int, v = .agg (az.map (Value.int k) ++ bz.map (Value.int k)).toArray ∧ az.length = n ∧ bz.length = n ∧ (∀ z ∈ az, (Lit.int k z).wf = true) ∧ ∀ z ∈ bz, (Lit.int k z).wf = true := by
  simp only [Value.okWide, ht] at hv
  obtain ⟨cs, rfl, hs, _⟩ := hv
  obtain ⟨fuel, hf⟩ := h
  have hcs : (Value.cells (.agg cs)).toList = cs.toList := by simp [Value.cells]
  rw [hcs] at hf
  obtain ⟨xs, m, _, _, hl, hxl, hget⟩ := DataW.trod_array ht hf
  have h0 := hget 0 (by omega)
  have h1 := hget 1 (by omega)
  rw [List.getElem?_eq_getElem (by omega)] at h0 h1
  obtain ⟨az, ea, la, wa⟩ := open_arrC ht1 he hC1 hE h0
  obtain ⟨bz, eb, lb, wb⟩ := open_arrC ht1 he hC1 hE h1
  rw [hC1, Nat.zero_mul, List.drop_zero] at ea
  rw [hC1, Nat.one_mul] at eb
  refine ⟨az, bz, ?_, la, lb, wa, wb⟩
  congr 1
  apply Array.ext'
  show cs.toList = az.map (Value.int k) ++ bz.map (Value.int k)
  rw [← ea, ← eb]
  have hln : cs.toList.length = 2 * n := hl.trans hC
  rw [List.take_of_length_le (l := cs.toList.drop n) (by rw [List.length_drop]; omega), List.take_append_drop]
abbrev pickC (y : Int × Int) : List Value := [.int .u8 y.1, .int .i64 y.2]
theorem open_pickC {fuel : Nat} {t e : TypeId} {f0 f1 : Field} {cs : List Value} {x : DataW H × List MemPlace} (ht : P.underlying t = some (.slice e)) (he : P.underlying e = some (.struct #[f0, f1])) (hE : P.cellsOf e = 2) (o0 : f0.offset = 0) (o1 : f1.offset = 1) (c0 : P.cellsOf f0.type = 1) (c1 : P.cellsOf f1.type = 1)
    (u0 : P.underlying f0.type = some (.int .u8)) (u1 : P.underlying f1.type = some (.int .i64)) (h : DataW.trod enc P W base sp held fuel t cs = some x) :
    ∃ a cap, ∃ ys : List (Int × Int), cs = [.slice a ys.length cap] ∧ Reads (Low W) 2 ys.length a cap (ys.flatMap pickC) ∧ (∀ y ∈ ys, (Lit.int .u8 y.1).wf = true ∧ (Lit.int .i64 y.2).wf = true) ∧ ys.length ≤ 9223372036854775807 := by
  obtain ⟨a, m, cap, ys, rfl, rfl, h1, h2, h3, h4⟩ := open_sliceC pickC (fun y => (Lit.int .u8 y.1).wf = true ∧ (Lit.int .i64 y.2).wf = true) ht hE (by decide) (fun n cs x hl hx => by
    obtain ⟨y0, y1, m, _, _, g0, g1⟩ := trod_struct2 he hx
    obtain ⟨v0, v1, rfl⟩ : ∃ a b, cs = [a, b] := by
      match cs, hl with
      | [a, b], _ => exact ⟨a, b, rfl⟩
    rw [o0, c0] at g0
    rw [o1, c1] at g1
    obtain ⟨i0, rfl, w0⟩ := trod_int u0 (v := v0) g0
    obtain ⟨i1, rfl, w1⟩ := trod_int u1 (v := v1) g1
    exact ⟨(i0, i1), rfl, w0, w1⟩) h
  exact ⟨a, cap, ys, rfl, h1, h2, Nat.le_trans h3 (Nat.le_trans h4 (by decide))⟩
theorem open_picks {r : Reach} {b0 : Nat} {t e : TypeId} {f0 f1 : Field} {v : Value} {d : DataW H} {p : List MemPlace} (ht : P.underlying t = some (.slice e)) (he : P.underlying e = some (.struct #[f0, f1])) (hE : P.cellsOf e = 2) (o0 : f0.offset = 0) (o1 : f1.offset = 1) (c0 : P.cellsOf f0.type = 1) (c1 : P.cellsOf f1.type = 1)
    (u0 : P.underlying f0.type = some (.int .u8)) (u1 : P.underlying f1.type = some (.int .i64)) (hv : Value.okWide P W r b0 t v) (h : DataW.Trod enc P W base sp held t v d p) :
    ∃ a c, ∃ ys : List (Int × Int), v = .slice a ys.length c ∧ Reads (Low W) 2 ys.length a c (ys.flatMap pickC) ∧ (∀ y ∈ ys, (Lit.int .u8 y.1).wf = true ∧ (Lit.int .i64 y.2).wf = true) ∧ ys.length ≤ 9223372036854775807 := by
  obtain ⟨a, m, cap, rfl⟩ := okWide_slice ht hv
  obtain ⟨fuel, hf⟩ := h
  obtain ⟨a', cap', ys, e, r1, r2, r3⟩ := open_pickC ht he hE o0 o1 c0 c1 u0 u1 hf
  simp [Value.cells] at e
  obtain ⟨rfl, rfl, rfl⟩ := e
  exact ⟨_, _, ys, rfl, r1, r2, r3⟩
end
def exP {α : Type} (Q : α → Prop) (p : α → List HP) : HP := fun H => ∃ x, Q x ∧ Stars (p x) H
theorem exP_in {α : Type} {Q : α → Prop} {p : α → List HP} {r : List HP} {H : PH} (x : α) (q : Q x) (h : Stars (p x ++ r) H) : Stars (exP Q p :: r) H := by
  obtain ⟨h1, h2, ap, s1, s2, a, b⟩ := h.app
  exact ⟨h1, h2, ap, s1, s2, ⟨x, q, a⟩, b⟩
theorem Sat.exP {α : Type} {Q : α → Prop} {p : α → List HP} {W w : World} {r : List HP} (h : Sat W (exP Q p :: r) w) : ∃ x, Q x ∧ Sat W (p x ++ r) w := by
  obtain ⟨h1, h2, ap, s1, s2, ⟨x, q, a⟩, b⟩ := h.stars
  exact ⟨x, q, h.os, h.tape, h.output, Stars.unapp ap s1 s2 a b⟩
section rules
variable {C : Ctx} {Q : Post} {g : Regs} {α : Type} {φ : α → Prop} {p : α → List HP} {r : List HP}
theorem JO_exP {opl os : List Oper} (h : ∀ x, φ x → JO C opl Q os g (p x ++ r)) : JO C opl Q os g (exP φ p :: r) :=
  ⟨fun a w hf hs => by
    obtain ⟨x, q, hs'⟩ := Sat.exP (r := r ++ C.fr) hs
    exact (h x q).out a w hf (by rw [List.append_assoc]; exact hs')⟩
theorem Does.exP {P : Program} {f : FuncId} {args : List Value} {post : Value → List HP → Prop} (hE : Enters P f) (h : ∀ x, φ x → Does P f args (p x ++ r) post) : Does P f args (exP φ p :: r) post :=
  ⟨hE, fun W fr w hs => by
    obtain ⟨x, q, hs'⟩ := Sat.exP (r := r ++ fr) hs
    exact (h x q).2 W fr w (by rw [List.append_assoc]; exact hs')⟩
theorem Does.post {P : Program} {f : FuncId} {args : List Value} {pre : List HP} {post post' : Value → List HP → Prop} (h : Does P f args pre post) (k : ∀ v l, post v l → ∃ l', post' v l' ∧ ∀ H, Stars l H → Stars l' H) : Does P f args pre post' :=
  ⟨h.1, fun W fr w hs => (h.2 W fr w hs).mono fun e w' ⟨v, l', he, hp, hs'⟩ => by
    obtain ⟨l2, hp2, hk⟩ := k v l' hp
    exact ⟨v, l2, he, hp2, hs'.lift hk⟩⟩
theorem Does.wide {P : Program} {f : FuncId} {args : List Value} {pre L r : List HP} {post : Value → List HP → Prop} (h : Does P f args pre post) (is : List Nat) (hp : picks L is = some (pre, r)) : Does P f args L (fun v l => ∃ l1, post v l1 ∧ l = l1 ++ r) :=
  ⟨h.1, fun W fr w hs => (h.2 W (r ++ fr) w (by rw [← List.append_assoc]; exact hs.perm ((picks_perm hp).append_right fr))).mono fun e w' ⟨v, l, he, hp, hs'⟩ =>
    ⟨v, l ++ r, he, ⟨l, hp, rfl⟩, by rw [List.append_assoc]; exact hs'⟩⟩
end rules
open Go.RowKit
def methB (P : Program) (t : TypeId) (name : String) (f : FuncId) : Bool :=
  match P.info? t with
  | some i => (match i.methods.find? (·.name == name) with
    | some m => m.path.isEmpty && (match m.func with | some (f', true) => Nat.beq f' f | _ => false)
    | none => false)
  | none => false
theorem method_run {P : Program} {t e : TypeId} {name : String} {f : FuncId} (h : methB P t name f = true) (hu : P.underlying t = some (.pointer e)) (fuel : Nat) (v : Value) (w : World) : (Go.method (fuel + 1) t v name).run P w = .ok (f, v) w := by
  unfold methB at h
  cases hi : P.info? t with
  | none => rw [hi] at h; cases h
  | some i =>
    rw [hi] at h
    dsimp only at h
    cases hm : i.methods.find? (·.name == name) with
    | none => rw [hm] at h; cases h
    | some m =>
      rw [hm] at h
      dsimp only at h
      rw [Bool.and_eq_true] at h
      obtain ⟨hp, hf⟩ := h
      have hp2 : m.path.toList = [] := by
        rw [Array.isEmpty_iff] at hp
        rw [hp]
      cases hmf : m.func with
      | none => rw [hmf] at hf; cases hf
      | some q =>
        obtain ⟨f', b⟩ := q
        cases b with
        | false => rw [hmf] at hf; cases hf
        | true =>
          rw [hmf] at hf
          have hf2 : f' = f := Nat.eq_of_beq_eq_true hf
          subst hf2
          simp only [Go.method, Sem.run_bind, run_typeInfo w hi, Result.andThen, hm, hp2, Go.follow, Pure.pure, Sem.run, hmf, Go.receiverAt, run_underlying hu w, Go.Place.get]
section ops
variable {C : Ctx} {g : Regs} {l : List HP}
theorem OL_invokeP {x : Operand} {name : String} {args : Array Operand} {ts : Array TypeId} {t e : TypeId} {y : Value} {f : FuncId} {vas : List Value} {pre r : List HP} {post : Value → List HP → Prop}
    (hx : ev g x = some (.iface t y)) (ha : evs g args.toList = some vas) (hm : methB C.P t name f = true) (hu : C.P.underlying t = some (.pointer e)) (hs : Does C.P f (y :: vas) pre post) (hp : l.Perm (pre ++ r)) :
    OpL C g l (.call { callee := .invoke x name, args := args, argTypes := ts }) (fun v l' => ∃ l1, post v l1 ∧ l' = l1 ++ r) :=
  ⟨(by intro c h; cases h), fun dst ty pos af gd a w hf hsat K Q k => by
    have e1 : args.map a.eval = vas.toArray := arr_of (hf.evs ha)
    have hs' : Sat C.W (pre ++ (r ++ C.fr)) w := (hsat.perm (hp.append_right _)).perm (by rw [List.append_assoc])
    have e2 : (#[y] ++ vas.toArray : Array Value) = (y :: vas).toArray := by apply Array.ext'; simp
    have e3 : (#[Value.iface t y] ++ vas.toArray : Array Value).extract 1 (#[Value.iface t y] ++ vas.toArray : Array Value).size = vas.toArray := by apply Array.ext'; simp
    have e4 : (#[Value.iface t y] ++ vas.toArray : Array Value)[0]? = some (.iface t y) := by simp
    simp only [execOp, resolve, e1, hf.ev hx, Sem.run_bind, Sem.run, Result.andThen, Pure.pure, invoke, e3, e4, callMethod, program]
    obtain ⟨n, hn⟩ : ∃ n, C.P.types.size + Made.depth = n + 1 := ⟨C.P.types.size + (Made.depth - 1), by have : 1 ≤ Made.depth := by decide
                                                                                                        omega⟩
    rw [hn, method_run hm hu n y w]
    simp only [e2]
    rw [hs.1 (y :: vas).toArray w]
    refine ⟨fun h => (by cases h), (callsIn_wide (n := 0 - 1)).2 ((hs.2 C.W (r ++ C.fr) w hs').mono ?_)⟩
    rintro e w' ⟨v, l', rfl, hpost, hsat'⟩
    exact k _ _ _ ⟨l', hpost, rfl⟩ (hsat'.perm (by rw [List.append_assoc]))⟩
theorem OV_iface {t e : TypeId} {x : Operand} {y : Value} (hx : ev g x = some y) (hu : C.P.underlying t = some (.pointer e)) : OpV C g (.makeInterface t x) (.iface t y) := by
  refine ⟨(by intro c h; cases h), fun d ty pos af gd a w hf => ?_⟩
  simp only [execOp, Instr.makeInterface, Sem.run_bind, hf.ev hx, run_underlying hu w, Result.andThen, Pure.pure, Sem.run]
theorem OV_ifaceEq {t t2 t' : TypeId} {ms : Array (String × TypeId)} {x : Operand} {y : Value} (hx : ev g x = some (.iface t y)) (hu : C.P.underlying t2 = some (.interface ms)) : OpV C g (.binOp .eql t2 x (.const .nilIface) t') (.bool false) := by
  refine ⟨(by intro c h; cases h), fun d ty pos af gd a w hf => ?_⟩
  have he : (Op.equal t2 (.iface t y) .nilIface).run C.P w = .ok false w := by
    unfold Op.equal
    show (Op.equalIn (9999 + 1) t2 _ _).run C.P w = _
    rw [Op.equalIn, Sem.run_bind, run_underlying hu w]
    rfl
  have hg : (eqGuard .eql t2 x (.const .nilIface) (.iface t y) .nilIface).run C.P w = .ok () w := rfl
  have hb : (binOp .eql t2 (.iface t y) .nilIface).run C.P w = .ok (.bool false) w := by
    have : binOp .eql t2 (.iface t y) .nilIface = (do Pure.pure (.bool (← Op.equal t2 (.iface t y) .nilIface)) : Sem Value) := rfl
    rw [this, Sem.run_bind, he]; rfl
  simp only [execOp, hf.ev hx, hf.ev (show ev g (.const .nilIface) = some .nilIface from rfl)]
  rw [Sem.run_bind, run_eql_of hg hb]
  rfl
theorem OV_nilEq {t2 t' : TypeId} {ms : Array (String × TypeId)} {x : Operand} (hx : ev g x = some .nilIface) (hu : C.P.underlying t2 = some (.interface ms)) : OpV C g (.binOp .eql t2 x (.const .nilIface) t') (.bool true) := by
  refine ⟨(by intro c h; cases h), fun d ty pos af gd a w hf => ?_⟩
  have he : (Op.equal t2 .nilIface .nilIface).run C.P w = .ok true w := by
    unfold Op.equal
    show (Op.equalIn (9999 + 1) t2 _ _).run C.P w = _
    rw [Op.equalIn, Sem.run_bind, run_underlying hu w]
    rfl
  have hg : (eqGuard .eql t2 x (.const .nilIface) .nilIface .nilIface).run C.P w = .ok () w := by
    cases x <;> rfl
  have hb : (binOp .eql t2 .nilIface .nilIface).run C.P w = .ok (.bool true) w := by
    have : binOp .eql t2 .nilIface .nilIface = (do Pure.pure (.bool (← Op.equal t2 .nilIface .nilIface)) : Sem Value) := rfl
    rw [this, Sem.run_bind, he]; rfl
  simp only [execOp, hf.ev hx, hf.ev (show ev g (.const .nilIface) = some .nilIface from rfl)]
  rw [Sem.run_bind, run_eql_of hg hb]
  rfl
end ops
end Go.Sep
namespace Go.Proofs.YtfmkjbmogfhpbaaGreatDoor
open Go.Sep
set_option maxHeartbeats 1000000 in
theorem CloneI_spec {R : HP} {m cap : Nat} {a : Option Addr} {cs : List Value} (h : Reads R 1 m a cap cs) (hp : plainL cs = true) (hm : m ≤ 1000000000) :
    Does Tryz.prog 41 [.slice a m cap] [R] (fun v l => ∃ a' cap', (a' = none → m = 0 ∧ cap' = 0) ∧ v = .slice a' m cap' ∧ l = [row 3 1 a' m cap' cs, R]) := by
  refine Does.of tiok Tryz.func41 (by kernel_rfl) rfl Tryz.ntmps41 rfl ?_
  intro W fr
  cases a with
  | none =>
    obtain ⟨rfl, rfl⟩ := h.empty rfl
    have hcs : cs = [] := List.eq_nil_of_length_eq_zero (by simpa using h.len)
    subst hcs
    repeat' (first | refine Wka ?_ | intro _ | apply And.intro)
    exact At_ret' rfl rfl (.tmp rfl .nil) rfl (fun _ hl => row_nil hl) ⟨none, 0, fun _ => ⟨rfl, rfl⟩, rfl, rfl⟩
  | some a =>
    repeat' (first | refine Wka ?_ | intro _ | apply And.intro)
    refine JO_l (OL_buildSlice (cs := []) rfl rfl rfl rfl rfl rfl rfl rfl) rfl rfl ?_
    rintro _ _ ⟨b, rfl, rfl⟩
    repeat' (first | refine Wka ?_ | intro _ | apply And.intro)
    refine JO_hp (fun _ hl => row_full (n := 0) (sz := 1) hl rfl) ?_
    refine JO_l (OL_append rfl rfl rfl rfl rfl P0 (h.src (.tail _ (.head _))) hp rfl (fun _ h => by cases h) (by omega) (by omega) (by decide)) rfl rfl ?_
    rintro _ _ ⟨a', cap', rfl, rfl⟩
    rw [Nat.zero_add, List.nil_append]
    repeat' (first | refine Wka ?_ | intro _ | apply And.intro)
    refine At_row P0 fun hr => ?_
    exact At_ret rfl rfl (.tmp rfl .nil) rfl (is := [0, 0]) rfl ⟨a', cap', hr.2.1, rfl, rfl⟩
open Go.Sep
abbrev intsV (ws : List Int) : List Value := ws.map (Value.int .i64)
abbrev boolsV (bs : List Bool) : List Value := bs.map Value.bool
theorem plainL_ints (ws : List Int) : plainL (intsV ws) = true := by
  induction ws with
  | nil => rfl
  | cons w ws ih => exact ih
abbrev sl (b n : Nat) : Value := .slice (some ⟨b, 0, none⟩) n n
abbrev heapL (p bw bs n : Nat) (ws : List Int) (top : Int) (st : List Bool) : List HP :=
  [blk p [sl bw n, .int .i64 top, sl bs n] 109, blk bw (intsV ws) 3, blk bs (boolsV st) 4]
set_option maxHeartbeats 1000000 in
theorem heapNew_ok (n : Nat) (h0 : 1 ≤ n) (h1 : n ≤ 65536) : Does Tryz.prog 22 [.int .i64 n] [] (fun v l => ∃ p bw bs, v = .tuple #[ptr p 0, .int .i64 0] ∧ l = heapL p bw bs n (List.replicate n 0) 0 (List.replicate n false)) := by
  refine Does.of tiok Tryz.func22 (by kernel_rfl) rfl Tryz.ntmps22 rfl ?_
  intro W fr
  repeat' (first | refine Wka ?_ | intro _ | apply And.intro)
  refine J_draw [0, 3, 0, 4, 0, 2, 0, 0] [0, 2, 1, 3, 4, 5, 6, 7] (by kernel_rfl) (by kernel_rfl) ?_
  repeat' (first | refine Wkd ?_ | intro _ | apply And.intro)
  refine JX_two (R := fun v u l' => ∃ b c, v = .slice (some ⟨b, 0, none⟩) n n ∧ u = .slice (some ⟨c, 0, none⟩) n n ∧ l' = [blk b (List.replicate n (.int .i64 0)) 3, blk c (List.replicate n (.bool false)) 4]) rfl rfl rfl rfl rfl rfl rfl (fun _ => rfl) (fun _ => rfl) rfl rfl ?_ ?_ ?_
  · refine (OL_make rfl rfl rfl rfl (by omega) (by omega) (by omega)).to fun v l' hv => ⟨l', ?_, fun _ h => h⟩
    obtain ⟨b, rfl, rfl⟩ := hv
    rw [Int.toNat_natCast]
    refine (OL_make rfl rfl rfl rfl (by omega) (by omega) (by omega)).to fun u l' hu => ?_
    obtain ⟨c, rfl, rfl⟩ := hu
    rw [Int.toNat_natCast]
    exact ⟨_, ⟨b, c, rfl, rfl, rfl⟩, fun _ h => h.swap⟩
  · refine (OL_make rfl rfl rfl rfl (by omega) (by omega) (by omega)).to fun v l' hv => ⟨l', ?_, fun _ h => h⟩
    obtain ⟨b, rfl, rfl⟩ := hv
    rw [Int.toNat_natCast]
    refine (OL_make rfl rfl rfl rfl (by omega) (by omega) (by omega)).to fun u l' hu => ?_
    obtain ⟨c, rfl, rfl⟩ := hu
    rw [Int.toNat_natCast]
    exact ⟨_, ⟨c, b, rfl, rfl, rfl⟩, fun _ h => h⟩
  rintro _ _ _ ⟨b, c, rfl, rfl, rfl⟩
  repeat' (first | refine Wkd ?_ | intro _ | apply And.intro)
  repeat' (first | refine Wka ?_ | intro _ | apply And.intro)
  rename_i p
  refine At_ret' rfl rfl (.tmp rfl (.tmp rfl .nil)) rfl (fun H hl => ?_) ⟨p, b, c, rfl, rfl⟩
  have e : heapL p b c n (List.replicate n 0) 0 (List.replicate n false) = [blk p [sl b n, .int .i64 0, sl c n] 109, blk b (List.replicate n (.int .i64 0)) 3, blk c (List.replicate n (.bool false)) 4] := by simp [heapL, intsV, boolsV]
  rw [e]
  exact hl
section ops
variable {p bw bs n : Nat} {ws : List Int} {top : Int} {st : List Bool}
theorem heapSize : Does Tryz.prog 44 [ptr p 0] (heapL p bw bs n ws top st) (fun v l => v = .int .i64 n ∧ l = heapL p bw bs n ws top st) := by
  refine Does.of tiok Tryz.func44 (by kernel_rfl) rfl Tryz.ntmps44 rfl ?_
  intro W fr
  repeat' (first | refine Wka ?_ | intro _ | apply And.intro)
  exact At_ret rfl rfl (.tmp rfl .nil) rfl (is := [0, 0, 0]) rfl ⟨rfl, rfl⟩
theorem heapTop : Does Tryz.prog 16 [ptr p 0] (heapL p bw bs n ws top st) (fun v l => v = .int .i64 top ∧ l = heapL p bw bs n ws top st) := by
  refine Does.of tiok Tryz.func16 (by kernel_rfl) rfl Tryz.ntmps16 rfl ?_
  intro W fr
  repeat' (first | refine Wka ?_ | intro _ | apply And.intro)
  exact At_ret rfl rfl (.tmp rfl .nil) rfl (is := [0, 0, 0]) rfl ⟨rfl, rfl⟩
theorem heapWords (hn : ws.length = n) (h1 : n ≤ 65536) : Does Tryz.prog 15 [ptr p 0] (heapL p bw bs n ws top st)
    (fun v l => ∃ a' cap', (a' = none → n = 0 ∧ cap' = 0) ∧ v = .slice a' n cap' ∧ l = row 3 1 a' n cap' (intsV ws) :: heapL p bw bs n ws top st) := by
  refine Does.of tiok Tryz.func15 (by kernel_rfl) rfl Tryz.ntmps15 rfl ?_
  intro W fr
  repeat' (first | refine Wka ?_ | intro _ | apply And.intro)
  refine JO_l (OL_call [1] rfl rfl rfl (CloneI_spec (Reads.blk (by simp [intsV, hn])) (plainL_ints ws) (by omega)) rfl) rfl rfl ?_
  rintro _ _ ⟨_, ⟨a', cap', hn, rfl, rfl⟩, rfl⟩
  repeat' (first | refine Wka ?_ | intro _ | apply And.intro)
  exact At_ret rfl rfl (.tmp rfl .nil) rfl (is := [0, 1, 0, 0]) rfl ⟨a', cap', hn, rfl, rfl⟩
theorem heapHead_no (at_ : Int) (hst : st.length = n) (ht : top ≤ n) (h : ¬ (0 ≤ at_ ∧ at_ < top ∧ st[at_.toNat]? = some true)) : Does Tryz.prog 99 [ptr p 0, .int .i64 at_] (heapL p bw bs n ws top st)
    (fun v l => v = .tuple #[headV 0 0 0, .int .i64 3] ∧ l = heapL p bw bs n ws top st) := by
  refine Does.of tiok Tryz.func99 (by kernel_rfl) rfl Tryz.ntmps99 rfl ?_
  intro W fr
  by_cases hr : 0 ≤ at_ ∧ at_ < top
  · obtain ⟨i, rfl⟩ := Int.eq_ofNat_of_zero_le hr.1
    have hi : i < n := by omega
    have hs : st[i]? = some false := by
      cases hb : st[i]? with
      | none => rw [List.getElem?_eq_none_iff] at hb; omega
      | some b => cases b with
        | false => rfl
        | true => exact absurd ⟨hr.1, hr.2, hb⟩ h
    repeat' (first | refine Wka ?_ | intro _ | apply And.intro)
    refine JO_val (OV_idx (off := i) rfl rfl rfl rfl (by omega) (by omega) (by simp)) rfl rfl ?_
    refine JO_q (OQ_load (v := .bool false) rfl rfl Mmt (by simp [boolsV, hs])) rfl rfl ?_
    repeat' (first | refine Wka ?_ | intro _ | apply And.intro)
    exact At_ret rfl rfl (.agg rfl rfl rfl Mmt rfl (.tmp rfl .nil)) rfl (is := [1, 1, 1]) rfl ⟨rfl, rfl⟩
  · repeat' (first | refine Wka ?_ | intro _ | apply And.intro)
    all_goals first | exact absurd (by omega) hr | exact At_ret rfl rfl (.agg rfl rfl rfl Mmt rfl (.tmp rfl .nil)) rfl (is := [1, 1, 1]) rfl ⟨rfl, rfl⟩
theorem heapHead_ok (i : Nat) (w : Int) (hw : In64 w) (hst : st.length = n) (hl : ws.length = n) (ht : top ≤ n) (hi : (i : Int) < top) (hs : st[i]? = some true) (hwi : ws[i]? = some w) : Does Tryz.prog 99 [ptr p 0, .int .i64 i] (heapL p bw bs n ws top st)
    (fun v l => v = .tuple #[unV w, .int .i64 (if wordB w then 0 else 2)] ∧ l = heapL p bw bs n ws top st) := by
  refine Does.of tiok Tryz.func99 (by kernel_rfl) rfl Tryz.ntmps99 rfl ?_
  intro W fr
  repeat' (first | refine Wka ?_ | intro _ | apply And.intro)
  refine JO_val (OV_idx (off := i) rfl rfl rfl rfl (by omega) (by omega) (by simp)) rfl rfl ?_
  refine JO_q (OQ_load (v := .bool true) rfl rfl Mmt (by simp [boolsV, hs])) rfl rfl ?_
  repeat' (first | refine Wka ?_ | intro _ | apply And.intro)
  refine JO_val (OV_idx (off := i) rfl rfl rfl rfl (by omega) (by omega) (by simp)) rfl rfl ?_
  refine JO_q (OQ_load (v := .int .i64 w) rfl rfl Mmt (by simp [intsV, hwi])) rfl rfl ?_
  cases hg : wordB w
  · refine JO_l (OL_call [] rfl rfl rfl (Unpack_bad hw hg) rfl) rfl rfl ?_; rintro _ _ ⟨_, ⟨rfl, rfl⟩, rfl⟩
    repeat' (first | refine Wka ?_ | intro _ | apply And.intro)
    exact At_ret rfl rfl (.agg rfl rfl rfl Mmt rfl (.tmp rfl .nil)) rfl (is := [1, 1, 1]) rfl ⟨by unfold unV; rw [hg]; rfl, rfl⟩
  · refine JO_l (OL_call [] rfl rfl rfl (Unpack_good hw hg) rfl) rfl rfl ?_; rintro _ _ ⟨_, ⟨rfl, rfl⟩, rfl⟩
    repeat' (first | refine Wka ?_ | intro _ | apply And.intro)
    exact At_ret rfl rfl (.agg rfl rfl rfl Mmt rfl (.tmp rfl .nil)) rfl (is := [1, 1, 1]) rfl ⟨by unfold unV; rw [hg]; rfl, rfl⟩
end ops
open Go.Sep
theorem putL_ints {ws : List Int} {i : Nat} (v : Int) (h : i < ws.length) : putL (intsV ws) i [.int .i64 v] = some (intsV (ws.set i v)) := by
  have e : put1 (intsV ws) i (.int .i64 v) = some ((intsV ws).set i (.int .i64 v)) := put1_set (by simpa [intsV] using h)
  simp only [putL, e]
  simp [intsV, List.map_set]
theorem putL_bools {bs : List Bool} {i : Nat} (v : Bool) (h : i < bs.length) : putL (boolsV bs) i [.bool v] = some (boolsV (bs.set i v)) := by
  have e : put1 (boolsV bs) i (.bool v) = some ((boolsV bs).set i (.bool v)) := put1_set (by simpa [boolsV] using h)
  simp only [putL, e]
  simp [boolsV, List.map_set]
def zeroAt (ws : List Int) (i k : Nat) : List Int := ws.take i ++ List.replicate k 0 ++ ws.drop (i + k)
theorem zeroAt_len {ws : List Int} {i k : Nat} (h : i + k ≤ ws.length) : (zeroAt ws i k).length = ws.length := by unfold zeroAt; simp; omega
theorem putL_zeros {ws : List Int} {i k : Nat} (h : i + k ≤ ws.length) : putL (intsV ws) i (List.replicate k (.int .i64 0)) = some (intsV (zeroAt ws i k)) := by
  rw [putL_split (by simp [intsV]; omega)]
  simp [intsV, zeroAt, List.map_take, List.map_drop]
section ops
variable {p bw bs n : Nat} {ws : List Int} {top : Int} {st : List Bool}
set_option maxHeartbeats 2000000 in
theorem lay_spec (i k : Nat) (kd pt : Int) (hg : goodB kd k pt = true) (hl : ws.length = n) (hst : st.length = n) (hn : n ≤ 65536) (hi : i + 1 + k ≤ n) :
    Does Tryz.prog 54 [ptr p 0, .int .i64 i, headV kd k pt] (heapL p bw bs n ws top st)
      (fun v l => v = .tuple #[] ∧ l = heapL p bw bs n (zeroAt (ws.set i (packI kd k pt)) (i + 1) k) top (st.set i true)) := by
  refine Does.of tiok Tryz.func54 (by kernel_rfl) rfl Tryz.ntmps54 rfl ?_
  intro W fr
  have hg' := of_decide_eq_true hg
  repeat' (first | refine Wka ?_ | intro _ | apply And.intro)
  refine J_draw [0, 0, 0, 1, 0, 1, 1, 0, 0, 0, 0, 2] [0, 1, 2, 3, 4, 5, 6, 7, 8, 9, 10, 11] (by kernel_rfl) (by kernel_rfl) ?_
  repeat' (first | refine Wkd ?_ | intro _ | apply And.intro)
  refine JX_q rfl rfl (OQ_call [] rfl rfl rfl (Pack_good hg) rfl (by rintro _ _ ⟨rfl, rfl⟩; exact ⟨rfl, fun _ h => h⟩)) rfl rfl ?_
  repeat' (first | refine Wkd ?_ | intro _ | apply And.intro)
  refine JX_val rfl rfl (OV_idx (off := i) rfl rfl rfl rfl (by omega) (by omega) (by simp)) rfl rfl ?_
  refine JX_l0 rfl rfl (OL_store rfl rfl rfl rfl rfl rfl P2 (putL_ints _ (by omega))) rfl ?_
  rintro _ _ rfl
  repeat' (first | refine Wkd ?_ | intro _ | apply And.intro)
  repeat' (first | refine Wka ?_ | intro _ | apply And.intro)
  refine JO_val (OV_idx (off := i) rfl rfl rfl rfl (by omega) (by omega) (by simp)) rfl rfl ?_
  refine JO_l0 (OL_store rfl rfl rfl rfl rfl rfl P3 (putL_bools true (by omega))) rfl ?_
  rintro _ _ rfl
  repeat' (first | refine Wka ?_ | intro _ | apply And.intro)
  refine J_draw [0, 0, 0, 1, 0, 0, 0, 0, 0, 1, 0, 0, 2] [0, 1, 2, 3, 4, 5, 6, 7, 8, 9, 10, 11, 12] (by kernel_rfl) (by kernel_rfl) ?_
  repeat' (first | refine Wkd ?_ | intro _ | apply And.intro)
  obtain ⟨o, ho, hko⟩ : ∃ o, (if n = ((i : Int) + 1).toNat then some (⟨bw, 0, none⟩ : Addr) else (some (⟨bw, 0, none⟩ : Addr)).map (·.add (((i : Int) + 1).toNat * 1))) = some ⟨bw, o, none⟩ ∧ (k ≠ 0 → o = i + 1) := by
    by_cases h : n = ((i : Int) + 1).toNat
    · exact ⟨0, by rw [if_pos h], fun hk => by omega⟩
    · refine ⟨i + 1, ?_, fun _ => rfl⟩
      rw [if_neg h, Option.map_some, addr_add]
      congr 2; omega
  refine JX_val rfl rfl (OV_slice (m := (i : Int) + 1) (n := (i : Int) + 1 + k) rfl rfl rfl rfl rfl rfl rfl (by omega) (by omega) (by omega) ho) rfl rfl ?_
  rw [show ((i : Int) + 1 + k).toNat - ((i : Int) + 1).toNat = k by omega]
  have hput : putL (intsV (ws.set i (packI kd k pt))) o (List.replicate k (.int .i64 0)) = some (intsV (zeroAt (ws.set i (packI kd k pt)) (i + 1) k)) := by
    by_cases hk : k = 0
    · subst hk; simp [putL, zeroAt]
    · rw [hko hk]; exact putL_zeros (by simp; omega)
  refine JX_l0 rfl rfl (OL_clear rfl rfl rfl P1 rfl hput) rfl ?_
  rintro _ _ ⟨_, rfl⟩
  repeat' (first | refine Wkd ?_ | intro _ | apply And.intro)
  exact At_end rfl rfl .nil rfl (is := [3, 0, 0]) rfl ⟨rfl, rfl⟩
set_option maxHeartbeats 2000000 in
theorem Place_ok (kd pt : Int) (k t : Nat) (hl : ws.length = n) (hst : st.length = n) (hn : n ≤ 65536) (hg : goodB kd k pt = true) (hf : t + 1 + k ≤ n) : Does Tryz.prog 23 [ptr p 0, headV kd k pt] (heapL p bw bs n ws t st)
    (fun v l => v = .tuple #[.int .i64 t, .int .i64 0] ∧ l = heapL p bw bs n (zeroAt (ws.set t (packI kd k pt)) (t + 1) k) ((t + 1 + k : Nat) : Int) (st.set t true)) := by
  have hg' := of_decide_eq_true hg
  refine Does.of tiok Tryz.func23 (by kernel_rfl) rfl Tryz.ntmps23 rfl ?_
  intro W fr
  repeat' (first | refine Wka ?_ | intro _ | apply And.intro)
  refine JO_l (OL_call [] rfl rfl rfl (Pack_good hg) rfl) rfl rfl ?_; rintro _ _ ⟨_, ⟨rfl, rfl⟩, rfl⟩
  repeat' (first | refine Wka ?_ | intro _ | apply And.intro)
  refine J_draw [0, 1, 0, 0, 0, 1, 0, 0, 0, 0, 1, 0, 0, 0] [0, 1, 2, 3, 4, 5, 6, 7, 8, 9, 10, 11, 12, 13] (by kernel_rfl) (by kernel_rfl) ?_
  repeat' (first | refine Wkd ?_ | intro _ | apply And.intro)
  repeat' (first | refine Wka ?_ | intro _ | apply And.intro)
  refine JO_l (OL_call [1, 1, 1] rfl rfl rfl (lay_spec t k kd pt hg hl hst hn hf) rfl) rfl rfl ?_; rintro _ _ ⟨_, ⟨rfl, rfl⟩, rfl⟩
  repeat' (first | refine Wka ?_ | intro _ | apply And.intro)
  refine J_draw [0, 0, 0, 1, 0, 1, 0, 0, 0, 0, 2] [0, 1, 2, 3, 4, 5, 6, 7, 8, 9, 10] (by kernel_rfl) (by kernel_rfl) ?_
  repeat' (first | refine Wkd ?_ | intro _ | apply And.intro)
  repeat' (first | refine Wka ?_ | intro _ | apply And.intro)
  refine At_ret rfl rfl (.tmp rfl (.tmp rfl .nil)) rfl (is := [0, 0, 0]) rfl ⟨rfl, ?_⟩
  rw [show ((t + 1 + k : Nat) : Int) = (t : Int) + (1 + (k : Int)) by omega]
end ops
open Go.Sep
def ofF (ws : List Int) (T : Nat) : Nat → Nat → List Bool → Option (List Bool)
  | 0, _, st => some st
  | f + 1, i, st => if i < T then
      match ws[i]? with
      | some w => if wordB w = true ∧ i + 1 + (unN w).toNat ≤ T then ofF ws T f (i + 1 + (unN w).toNat) (st.set i true) else none
      | none => none
    else some st
theorem unN_in {w : Int} (h : wordB w = true) : 0 ≤ unN w ∧ unN w ≤ 4095 := by
  obtain ⟨_, h1, _⟩ := un_packI h
  have := of_decide_eq_true h1
  omega
section ops
variable {R : HP} {a : Option Addr} {cap : Nat}
set_option maxHeartbeats 4000000 in
theorem Of_spec {ws : List Int} (hR : Reads R 1 ws.length a cap (intsV ws)) (hz : ∀ w ∈ ws, In64 w) (T : Nat) (h1 : 1 ≤ ws.length) (h2 : ws.length ≤ 65536) (hT : T ≤ ws.length) : Does Tryz.prog 77 [.slice a ws.length cap, .int .i64 T] [R]
    (fun v l => match ofF ws T (T + 1) 0 (List.replicate ws.length false) with
      | some st => ∃ p bw bs, v = .tuple #[ptr p 0, .int .i64 0] ∧ l = heapL p bw bs ws.length ws T st ++ [R]
      | none => v = .tuple #[.pointer none, .int .i64 2] ∧ l = [R]) := by
  obtain ⟨res, hres⟩ : ∃ res, res = ofF ws T (T + 1) 0 (List.replicate ws.length false) := ⟨_, rfl⟩
  rw [← hres]
  refine Does.of tiok Tryz.func77 (by kernel_rfl) rfl Tryz.ntmps77 rfl ?_
  intro W fr
  repeat' (first | refine Wka ?_ | intro _ | apply And.intro)
  refine JO_l (OL_call [] rfl rfl rfl (heapNew_ok ws.length h1 h2) rfl) rfl rfl ?_; rintro _ _ ⟨_, ⟨p, bw, bs, rfl, rfl⟩, rfl⟩
  repeat' (first | refine Wka ?_ | intro _ | apply And.intro)
  refine JO_l (OL_copy rfl rfl rfl rfl P1 rfl (fun w hs => by rw [Nat.min_self]; exact (hR.src (.tail _ (.tail _ (.tail _ (.head _))))).2.2 w hs) (plainL_ints ws) (cs' := intsV ws) ?_) rfl rfl ?_
  · rw [putL_split (by simp [intsV])]; simp [intsV]
  rintro _ _ ⟨rfl, rfl⟩
  repeat' (first | refine Wka ?_ | intro _ | apply And.intro)
  refine J_loop (α := Nat × List Bool × Nat) (fun x => x.1 ≤ T ∧ x.2.1.length = ws.length ∧ T < x.1 + x.2.2 ∧ res = ofF ws T x.2.2 x.1 x.2.1)
    (fun x => [(0, .slice a ws.length cap), (1, .int .i64 T), (4, .pointer none), (5, .int .i64 0), (6, ptr p 0)])
    (fun x => heapL p bw bs ws.length ws x.1 x.2.1 ++ [R]) (fun x => T - x.1) (0, List.replicate ws.length false, T + 1) ⟨Nat.zero_le _, by simp, by simp, hres⟩ Sgt (fun H hl => hl.swap) ?_
  rintro ⟨i, st, f⟩ ⟨hi, hst, hf, hof⟩
  dsimp only at hi hst hf hof ⊢
  repeat' (first | refine Wka ?_ | intro _ | apply And.intro)
  · rename_i hlt
    have hlt' : i < T := by omega
    have hil : i < ws.length := by omega
    obtain ⟨w, hwi⟩ : ∃ w, ws[i]? = some w := ⟨ws[i], List.getElem?_eq_getElem _⟩
    have hw := hz w (List.mem_of_getElem? hwi)
    obtain ⟨g, rfl⟩ : ∃ g, f = g + 1 := ⟨f - 1, by omega⟩
    simp only [ofF, hlt', if_true, hwi] at hof
    refine JO_fact _ (fun w hs => hR.some (by omega) hs (.tail _ (.tail _ (.tail _ (.head _))))) ?_
    rintro ⟨b, o, rfl⟩
    refine JO_val (OV_idx (off := o + i) rfl rfl rfl rfl (by omega) (by omega) (by simp)) rfl rfl ?_
    refine JO_q (OQ_read (v := .int .i64 w) hR (.tail _ (.tail _ (.tail _ (.head _)))) rfl rfl (by omega) (by simp [intsV, hwi])) rfl rfl ?_
    cases hg : wordB w
    · rw [hg] at hof
      simp only [Bool.false_eq_true, false_and, if_false] at hof
      refine JO_l (OL_call [] rfl rfl rfl (Unpack_bad hw hg) rfl) rfl rfl ?_; rintro _ _ ⟨_, ⟨rfl, rfl⟩, rfl⟩
      repeat' (first | refine Wka ?_ | intro _ | apply And.intro)
      refine J_draw [0, 0, 0, 0, 1, 0, 0, 0, 0, 1, 0, 0, 0] [0, 1, 2, 3, 4, 5, 6, 7, 8, 9, 10, 11, 12] (by kernel_rfl) (by kernel_rfl) ?_
      repeat' (first | refine Wkd ?_ | intro _ | apply And.intro)
      repeat' (first | refine Wka ?_ | intro _ | apply And.intro)
      exact At_ret rfl rfl (.tmp rfl (.tmp rfl .nil)) rfl (is := [4]) rfl (by rw [hof]; exact ⟨rfl, rfl⟩)
    · obtain ⟨hn1, hn2⟩ := unN_in hg
      obtain ⟨k, hk⟩ := Int.eq_ofNat_of_zero_le hn1
      rw [hg, hk] at hof
      simp only [true_and, Int.toNat_natCast] at hof
      refine JO_l (OL_call [] rfl rfl rfl (Unpack_good hw hg) rfl) rfl rfl ?_; rintro _ _ ⟨_, ⟨rfl, rfl⟩, rfl⟩
      rw [hk]
      repeat' (first | refine Wka ?_ | intro _ | apply And.intro)
      refine J_draw [0, 0, 0, 0, 1, 0, 0, 0, 0, 1, 0, 0, 0] [0, 1, 2, 3, 4, 5, 6, 7, 8, 9, 10, 11, 12] (by kernel_rfl) (by kernel_rfl) ?_
      repeat' (first | refine Wkd ?_ | intro _ | apply And.intro)
      by_cases hfit : i + 1 + k ≤ T
      · rw [if_pos hfit] at hof
        repeat' (first | refine Wka ?_ | intro _ | apply And.intro)
        refine J_draw [0, 0, 0, 1, 0, 0, 0, 1, 0, 2] [0, 1, 2, 3, 4, 5, 6, 7, 8, 9] (by kernel_rfl) (by kernel_rfl) ?_
        repeat' (first | refine Wkd ?_ | intro _ | apply And.intro)
        refine JX_val rfl rfl (OV_idx (off := i) rfl rfl rfl rfl (by omega) (by omega) (by simp)) rfl rfl ?_
        refine JX_l0 rfl rfl (OL_store rfl rfl rfl rfl rfl rfl (by first | exact P0 | exact P1 | exact P2 | exact P3 | exact P4 | exact P5 | exact P6 | exact P7) (putL_bools true (by omega))) rfl ?_
        rintro _ _ rfl
        repeat' (first | refine Wkd ?_ | intro _ | apply And.intro)
        repeat' (first | refine Wka ?_ | intro _ | apply And.intro)
        refine J_draw [0, 0, 0, 1, 0, 1, 0, 0, 0, 0, 2] [0, 1, 2, 3, 4, 5, 6, 7, 8, 9, 10] (by kernel_rfl) (by kernel_rfl) ?_
        repeat' (first | refine Wkd ?_ | intro _ | apply And.intro)
        repeat' (first | refine Wka ?_ | intro _ | apply And.intro)
        rw [show ((i : Int) + (1 + (k : Int))) = ((i + 1 + k : Nat) : Int) by omega]
        exact At_round (i + 1 + k, st.set i true, g) (by show T - (i + 1 + k) < T - i; omega) ⟨hfit, by simp [hst], by show T < i + 1 + k + g; omega, hof⟩ Sgt (fun H hl => (hl.perm (picks_perm (is := [0, 2, 0, 1]) rfl)).left)
      · rw [if_neg hfit] at hof
        repeat' (first | refine Wka ?_ | intro _ | apply And.intro)
        exact At_ret rfl rfl (.tmp rfl (.tmp rfl .nil)) rfl (is := [4]) rfl (by rw [hof]; exact ⟨rfl, rfl⟩)
  · have hii : i = T := by omega
    subst hii
    have e : ofF ws i f i st = some st := by cases f <;> simp [ofF]
    rw [e] at hof
    refine At_ret rfl rfl (.tmp rfl (.tmp rfl .nil)) rfl (is := [0, 0, 0, 0]) rfl ?_
    rw [hof]
    exact ⟨p, bw, bs, rfl, rfl⟩
end ops
open Go.Sep
set_option maxHeartbeats 4000000 in
theorem refGood_spec (k n p : Int) : Does Tryz.prog 55 [headV k n p] [] (fun v l => v = .bool (goodB k n p) ∧ l = []) := by
  refine Does.of tiok Tryz.func55 (by kernel_rfl) rfl Tryz.ntmps55 rfl ?_
  intro W fr
  repeat' (first | refine Wka ?_ | intro _ | apply And.intro)
  all_goals refine At_ret1 rfl rfl rfl (is := []) rfl ⟨?_, rfl⟩
  all_goals (refine congrArg Value.bool ?_; unfold goodB; first | exact (decide_eq_true (by omega)).symm | exact (decide_eq_false (by omega)).symm | exact decide_eq_decide.2 (by omega))
open Go.Sep
theorem zeroAt_in {ws : List Int} {i k j : Nat} (h : i + k ≤ ws.length) (h1 : i ≤ j) (h2 : j < i + k) : (zeroAt ws i k)[j]? = some 0 := by
  unfold zeroAt
  have e : (ws.take i).length = i := by simp; omega
  rw [List.append_assoc, List.getElem?_append_right (by omega), e, List.getElem?_append_left (by simp; omega), List.getElem?_replicate, if_pos (by omega)]
theorem zeroAt_out {ws : List Int} {i k j : Nat} (h : i + k ≤ ws.length) (h1 : j < i ∨ i + k ≤ j) : (zeroAt ws i k)[j]? = ws[j]? := by
  unfold zeroAt
  have e : (ws.take i).length = i := by simp; omega
  rcases h1 with h1 | h1
  · rw [List.append_assoc, List.getElem?_append_left (by omega), List.getElem?_take_of_lt h1]
  · rw [List.getElem?_append_right (by simp; omega), List.getElem?_drop]
    congr 1
    simp; omega
theorem ofF_len {ws : List Int} {T : Nat} : ∀ {f i : Nat} {st st' : List Bool}, ofF ws T f i st = some st' → st'.length = st.length
  | 0, i, st, st', h => by simp [ofF] at h; rw [h]
  | f + 1, i, st, st', h => by
    simp only [ofF] at h
    split at h
    · split at h
      · split at h
        · rw [ofF_len h]; simp
        · cases h
      · cases h
    · injection h with h; rw [h]
open Go.Sep
def objN (ws : List Int) (T : Nat) : Nat → Nat → Nat
  | 0, _ => 0
  | f + 1, i => if i < T then (match ws[i]? with
      | some w => 1 + objN ws T f (i + 1 + (unN w).toNat)
      | none => 0) else 0
theorem ofF_keep {ws : List Int} {T : Nat} : ∀ {f i : Nat} {st st' : List Bool}, ofF ws T f i st = some st' → ∀ j : Nat, st[j]? = some true → st'[j]? = some true
  | 0, i, st, st', h, j, hj => by simp [ofF] at h; rw [← h]; exact hj
  | f + 1, i, st, st', h, j, hj => by
    simp only [ofF] at h
    split at h
    · split at h
      · split at h
        · refine ofF_keep h j ?_
          rw [List.getElem?_set]
          split
          · rename_i e; subst e
            rw [if_pos (List.getElem?_eq_some_iff.1 hj).1]
          · exact hj
        · cases h
      · cases h
    · injection h with h; rw [← h]; exact hj
theorem ofF_step {ws : List Int} {T f i : Nat} {st st' : List Bool} (h : ofF ws T f i st = some st') (hf : T < i + f) (hi : i < T) (hl : st.length = ws.length) (hT : T ≤ ws.length) :
    ∃ w f', f = f' + 1 ∧ ws[i]? = some w ∧ wordB w = true ∧ i + 1 + (unN w).toNat ≤ T ∧ ofF ws T f' (i + 1 + (unN w).toNat) (st.set i true) = some st' ∧ st'[i]? = some true ∧ objN ws T f i = 1 + objN ws T f' (i + 1 + (unN w).toNat) := by
  cases f with
  | zero => omega
  | succ f =>
    simp only [ofF, if_pos hi] at h
    split at h
    · rename_i w hw
      split at h
      · rename_i hb
        refine ⟨w, f, rfl, hw, hb.1, hb.2, h, ofF_keep h i ?_, by simp only [objN, if_pos hi, hw]⟩
        rw [List.getElem?_set, if_pos rfl, if_pos (by omega)]
      · cases h
    · cases h
section ops
variable {p bw bs n bh ba bn bo bat bm bt : Nat} {ws : List Int} {st : List Bool} {T : Nat}
theorem Walk_spec : Does Tryz.prog 81 [ptr p 0] [] (fun v l => ∃ bh, v = .func (.func 113) #[] #[ptr bh 0] ∧ l = [blk bh [ptr p 0] 32]) := by
  refine Does.of tiok Tryz.func81 (by kernel_rfl) rfl Tryz.ntmps81 rfl ?_
  intro W fr
  repeat' (first | refine Wka ?_ | intro _ | apply And.intro)
  rename_i bh
  exact At_ret rfl rfl (.tmp rfl .nil) rfl (is := [0]) rfl ⟨bh, rfl, rfl⟩
theorem Head_good (i : Nat) (w : Int) (hw : In64 w) (hg : wordB w = true) (hst : st.length = n) (hl : ws.length = n) (ht : (T : Int) ≤ n) (hi : i < T) (hs : st[i]? = some true) (hwi : ws[i]? = some w) :
    Does Tryz.prog 99 [ptr p 0, .int .i64 i] (heapL p bw bs n ws T st) (fun v l => v = .tuple #[headV (unK w) (unN w) (unP w), .int .i64 0] ∧ l = heapL p bw bs n ws T st) := by
  have h := heapHead_ok (p := p) (bw := bw) (bs := bs) (n := n) (ws := ws) (top := (T : Int)) (st := st) i w hw hst hl ht (by omega) hs hwi
  rw [show unV w = headV (unK w) (unN w) (unP w) by unfold unV; rw [hg]; rfl, show (if wordB w = true then (0 : Int) else 2) = 0 by rw [hg]; rfl] at h
  exact h
end ops
open Go.Sep
structure HInv (n : Nat) (ws : List Int) (st : List Bool) : Prop where
  wl : ws.length = n
  sl : st.length = n
  nb : n ≤ 65536
  w64 : ∀ w ∈ ws, In64 w
  obj : ∀ i : Nat, st[i]? = some true → ∃ w, ws[i]? = some w ∧ wordB w = true ∧ i + 1 + (unN w).toNat ≤ n ∧ ∀ j, i < j → j < i + 1 + (unN w).toNat → st[j]? ≠ some true
open Go.Sep
theorem zeroAt_mem {ws : List Int} {i k : Nat} {x : Int} (h : x ∈ zeroAt ws i k) : x ∈ ws ∨ x = 0 := by
  unfold zeroAt at h
  rcases List.mem_append.1 h with h | h
  · rcases List.mem_append.1 h with h | h
    · exact .inl (List.mem_of_mem_take h)
    · exact .inr (List.eq_of_mem_replicate h)
  · exact .inl (List.mem_of_mem_drop h)
theorem in64_zero : In64 0 := ⟨by decide, by decide⟩
theorem lay_at {ws : List Int} {i k : Nat} {v : Int} (h : i + 1 + k ≤ ws.length) : (zeroAt (ws.set i v) (i + 1) k)[i]? = some v := by
  rw [zeroAt_out (by simp; omega) (.inl (by omega)), List.getElem?_set, if_pos rfl, if_pos (by omega)]
theorem lay_out {ws : List Int} {i k j : Nat} {v : Int} (h : i + 1 + k ≤ ws.length) (hj : j < i ∨ i + 1 + k ≤ j) : (zeroAt (ws.set i v) (i + 1) k)[j]? = ws[j]? := by
  rw [zeroAt_out (by simp; omega) (by omega), List.getElem?_set_ne (by omega)]
theorem lay_mem {ws : List Int} {i k : Nat} {v x : Int} (h : x ∈ zeroAt (ws.set i v) (i + 1) k) : x ∈ ws ∨ x = v ∨ x = 0 := by
  rcases zeroAt_mem h with h | h
  · rcases List.mem_or_eq_of_mem_set h with h | h
    · exact .inl h
    · exact .inr (.inl h)
  · exact .inr (.inr h)
theorem set_trueB {st : List Bool} {i j : Nat} (h : (st.set i true)[j]? = some true) : j = i ∨ st[j]? = some true := by
  rw [List.getElem?_set] at h
  split at h
  · rename_i e; exact .inl e.symm
  · exact .inr h
open Go.Sep
structure HT (n T : Nat) (ws : List Int) (st : List Bool) : Prop where
  wl : ws.length = n
  sl : st.length = n
  nb : n ≤ 65536
  tn : T ≤ n
  w64 : ∀ w ∈ ws, In64 w
  zero : T = 0 ∨ st[0]? = some true
  obj : ∀ i : Nat, st[i]? = some true → ∃ w, ws[i]? = some w ∧ wordB w = true ∧ i + 1 + (unN w).toNat ≤ T ∧ (i + 1 + (unN w).toNat = T ∨ st[i + 1 + (unN w).toNat]? = some true) ∧ ∀ j, i < j → j < i + 1 + (unN w).toNat → st[j]? ≠ some true
theorem HT.lt {n T : Nat} {ws : List Int} {st : List Bool} (h : HT n T ws st) {i : Nat} (hi : st[i]? = some true) : i < T := by
  obtain ⟨w, _, _, h1, _⟩ := h.obj i hi
  omega
def leadsB (ws : List Int) (st : List Bool) (v : Int) : Bool := decide (v = 0 ∨ (1 ≤ v ∧ st[(v - 1).toNat]? = some true ∧ unK (ws.getD (v - 1).toNat 0) ≠ 15))
def RefsOk (ws : List Int) (st : List Bool) : Prop := ∀ (i : Nat) (w : Int), st[i]? = some true → ws[i]? = some w → ∀ j : Nat, (j : Int) < unP w → leadsB ws st (ws.getD (i + 1 + j) 0) = true
theorem HT.new {n : Nat} (h : n ≤ 65536) : HT n 0 (List.replicate n 0) (List.replicate n false) :=
  ⟨by simp, by simp, h, Nat.zero_le _, fun w hw => by rw [List.eq_of_mem_replicate hw]; exact in64_zero, .inl rfl, fun i hi => by
    rw [List.getElem?_replicate] at hi
    split at hi <;> cases hi⟩
theorem RefsOk.new {n : Nat} : RefsOk (List.replicate n 0) (List.replicate n false) := fun i w hi => by
  rw [List.getElem?_replicate] at hi
  split at hi <;> cases hi
theorem getD_of {ws : List Int} {i : Nat} {w d : Int} (h : ws[i]? = some w) : ws.getD i d = w := by rw [List.getD_eq_getElem?_getD, h]; rfl
theorem leadsB_zero {ws : List Int} {st : List Bool} : leadsB ws st 0 = true := decide_eq_true (.inl rfl)
theorem leadsB_keep {ws ws' : List Int} {st st' : List Bool} {v : Int} (h : leadsB ws st v = true) (k : ∀ i : Nat, st[i]? = some true → unK (ws.getD i 0) ≠ 15 → st'[i]? = some true ∧ unK (ws'.getD i 0) ≠ 15) : leadsB ws' st' v = true := by
  rcases of_decide_eq_true h with h | ⟨h1, h2, h3⟩
  · exact decide_eq_true (.inl h)
  · obtain ⟨a, b⟩ := k _ h2 h3
    exact decide_eq_true (.inr ⟨h1, a, b⟩)
section keeps
variable {n T : Nat} {ws : List Int} {st : List Bool}
theorem HT.write (h : HT n T ws st) (i m : Nat) (w word : Int) (hs : st[i]? = some true) (hw : ws[i]? = some w) (hm : (m : Int) < unN w) (h64 : In64 word) : HT n T (ws.set (i + 1 + m) word) st := by
  obtain ⟨w0, b1, b2, b3, b4, b5⟩ := h.obj i hs
  rw [hw] at b1; injection b1 with b1; subst b1
  have hno : st[i + 1 + m]? ≠ some true := b5 _ (by omega) (by omega)
  refine ⟨by simp [h.wl], h.sl, h.nb, h.tn, fun x hx => ?_, h.zero, fun j hj => ?_⟩
  · rcases List.mem_or_eq_of_mem_set hx with hx | rfl
    · exact h.w64 x hx
    · exact h64
  · obtain ⟨w', a1, a2, a3, a4⟩ := h.obj j hj
    refine ⟨w', ?_, a2, a3, a4⟩
    rw [List.getElem?_set_ne (fun e => by subst e; exact hno hj)]
    exact a1
theorem RefsOk.write (h : HT n T ws st) (hR : RefsOk ws st) (i m : Nat) (w word : Int) (hs : st[i]? = some true) (hw : ws[i]? = some w) (hm : (m : Int) < unN w) (hl : (m : Int) < unP w → leadsB ws st word = true) : RefsOk (ws.set (i + 1 + m) word) st := by
  obtain ⟨w0, b1, b2, b3, b4, b5⟩ := h.obj i hs
  rw [hw] at b1; injection b1 with b1; subst b1
  have hno : st[i + 1 + m]? ≠ some true := b5 _ (by omega) (by omega)
  have hwl := h.wl
  have htn := h.tn
  have keep : ∀ q : Nat, st[q]? = some true → (ws.set (i + 1 + m) word)[q]? = ws[q]? := fun q hq => List.getElem?_set_ne (fun e => by subst e; exact hno hq)
  have keepD : ∀ q : Nat, st[q]? = some true → unK (ws.getD q 0) ≠ 15 → st[q]? = some true ∧ unK ((ws.set (i + 1 + m) word).getD q 0) ≠ 15 := fun q hq hk => by
    refine ⟨hq, ?_⟩
    rw [List.getD_eq_getElem?_getD, keep q hq, ← List.getD_eq_getElem?_getD]
    exact hk
  intro q x hq hx j hj
  rw [keep q hq] at hx
  by_cases e : q + 1 + j = i + 1 + m
  · have hqi : q = i := by
      obtain ⟨x0, c1, c2, c3, c4, c5⟩ := h.obj q hq
      rw [hx] at c1; injection c1 with c1; subst c1
      have hg := (un_packI c2).2.1
      have hgb := of_decide_eq_true hg
      rcases Nat.lt_trichotomy q i with c | c | c
      · exact absurd hs (c5 i c (by omega))
      · exact c
      · exact absurd hq (b5 q c (by omega))
    subst hqi
    rw [hw] at hx; injection hx with hx; subst hx
    obtain rfl : j = m := by omega
    rw [List.getD_eq_getElem?_getD, List.getElem?_set, if_pos rfl, if_pos (by omega)]
    exact leadsB_keep (hl hj) keepD
  · rw [List.getD_eq_getElem?_getD, List.getElem?_set_ne (by omega), ← List.getD_eq_getElem?_getD]
    exact leadsB_keep (hR q x hq hx j hj) keepD
theorem HT.place (h : HT n T ws st) {kd pt : Int} {k : Nat} (hg : goodB kd k pt = true) (hf : T + 1 + k ≤ n) : HT n (T + 1 + k) (zeroAt (ws.set T (packI kd k pt)) (T + 1) k) (st.set T true) := by
  obtain ⟨u1, u2, u3, u4, u5⟩ := packI_un hg
  have hwl := h.wl
  have hsl := h.sl
  have hT : (st.set T true)[T]? = some true := by rw [List.getElem?_set, if_pos rfl, if_pos (by omega)]
  refine ⟨by rw [zeroAt_len (by simp; omega)]; simp [hwl], by simp [hsl], h.nb, hf, fun x hx => ?_, .inr ?_, fun j hj => ?_⟩
  · rcases lay_mem hx with hx | rfl | rfl
    · exact h.w64 x hx
    · exact u1
    · exact in64_zero
  · rcases h.zero with e | e
    · rw [← e]; exact hT
    · rw [List.getElem?_set]
      split
      · rename_i e2; rw [if_pos (by omega)]
      · exact e
  · by_cases e : j = T
    · subst e
      refine ⟨_, lay_at (by omega), u2, by rw [u4]; omega, .inl (by rw [u4]; omega), fun q h1 h2 hq => ?_⟩
      rcases set_trueB hq with e | hq
      · omega
      · have := h.lt hq; omega
    · have hj' : st[j]? = some true := by
        rcases set_trueB hj with e' | hj'
        · exact absurd e' e
        · exact hj'
      have hlt := h.lt hj'
      obtain ⟨w', a1, a2, a3, a4, a5⟩ := h.obj j hj'
      refine ⟨w', ?_, a2, by omega, .inr ?_, fun q h1 h2 hq => ?_⟩
      · rw [lay_out (by omega) (.inl hlt)]; exact a1
      · rcases a4 with a4 | a4
        · rw [a4]; exact hT
        · rw [List.getElem?_set]
          split
          · rw [if_pos (by omega)]
          · exact a4
      · rcases set_trueB hq with e2 | hq
        · omega
        · exact a5 q h1 h2 hq
theorem RefsOk.place (h : HT n T ws st) (hR : RefsOk ws st) {kd pt : Int} {k : Nat} (hg : goodB kd k pt = true) (hf : T + 1 + k ≤ n) : RefsOk (zeroAt (ws.set T (packI kd k pt)) (T + 1) k) (st.set T true) := by
  obtain ⟨u1, u2, u3, u4, u5⟩ := packI_un hg
  have hgb := of_decide_eq_true hg
  have hwl := h.wl
  have hsl := h.sl
  have hout : ∀ q : Nat, q < T → (zeroAt (ws.set T (packI kd k pt)) (T + 1) k)[q]? = ws[q]? := fun q hq => lay_out (by omega) (.inl hq)
  have keepD : ∀ q : Nat, st[q]? = some true → unK (ws.getD q 0) ≠ 15 → (st.set T true)[q]? = some true ∧ unK ((zeroAt (ws.set T (packI kd k pt)) (T + 1) k).getD q 0) ≠ 15 := fun q hq hk => by
    have := h.lt hq
    refine ⟨by rw [List.getElem?_set_ne (by omega)]; exact hq, ?_⟩
    rw [List.getD_eq_getElem?_getD, hout q this, ← List.getD_eq_getElem?_getD]
    exact hk
  intro q x hq hx j hj
  by_cases e : q = T
  · subst e
    rw [lay_at (by omega)] at hx
    injection hx with hx
    subst hx
    rw [u5] at hj
    rw [List.getD_eq_getElem?_getD, zeroAt_in (by simp; omega) (by omega) (by omega)]
    exact leadsB_zero
  · have hq' : st[q]? = some true := by
      rcases set_trueB hq with e' | hq'
      · exact absurd e' e
      · exact hq'
    have hlt := h.lt hq'
    rw [hout q hlt] at hx
    obtain ⟨x0, c1, c2, c3, c4, c5⟩ := h.obj q hq'
    rw [hx] at c1; injection c1 with c1; subst c1
    have hgb2 := of_decide_eq_true (un_packI c2).2.1
    rw [List.getD_eq_getElem?_getD, hout _ (by omega), ← List.getD_eq_getElem?_getD]
    exact leadsB_keep (hR q x hq' hx j hj) keepD
theorem HT.apart (h : HT n T ws st) {i j : Nat} {w : Int} (hs : st[i]? = some true) (hw : ws[i]? = some w) (hj : st[j]? = some true) (e : j ≠ i) : j < i ∨ i + 1 + (unN w).toNat ≤ j := by
  obtain ⟨w0, b1, b2, b3, b4, b5⟩ := h.obj i hs
  rw [hw] at b1; injection b1 with b1; subst b1
  rcases Nat.lt_or_ge j i with c | c
  · exact .inl c
  · right
    rcases Nat.lt_or_ge j (i + 1 + (unN w).toNat) with d | d
    · exact absurd hj (b5 j (by omega) d)
    · exact d
theorem HT.ends (h : HT n T ws st) {i j : Nat} {x : Int} (hs : st[i]? = some true) (hj : st[j]? = some true) (hx : ws[j]? = some x) (e : j < i) : j + 1 + (unN x).toNat ≤ i := by
  obtain ⟨w0, b1, b2, b3, b4, b5⟩ := h.obj j hj
  rw [hx] at b1; injection b1 with b1; subst b1
  rcases Nat.lt_or_ge i (j + 1 + (unN x).toNat) with d | d
  · exact absurd hs (b5 i e d)
  · exact d
theorem RefsOk.of {ws' : List Int} {st' : List Bool} (hR : RefsOk ws st) (keep : ∀ q : Nat, st[q]? = some true → unK (ws.getD q 0) ≠ 15 → st'[q]? = some true ∧ unK (ws'.getD q 0) ≠ 15)
    (each : ∀ (q : Nat) (x : Int), st'[q]? = some true → ws'[q]? = some x → (∀ j : Nat, (j : Int) < unP x → ws'.getD (q + 1 + j) 0 = 0) ∨ (st[q]? = some true ∧ ws[q]? = some x ∧ ∀ j : Nat, (j : Int) < unP x → ws'.getD (q + 1 + j) 0 = ws.getD (q + 1 + j) 0)) : RefsOk ws' st' := by
  intro q x hq hx j hj
  rcases each q x hq hx with e | ⟨e1, e2, e3⟩
  · rw [e j hj]; exact leadsB_zero
  · rw [e3 j hj]; exact leadsB_keep (hR q x e1 e2 j hj) keep
end keeps
open Go.Sep
def isObj (st : List Bool) (a : Int) : Prop := 0 ≤ a ∧ st[a.toNat]? = some true
instance (st : List Bool) (a : Int) : Decidable (isObj st a) := by unfold isObj; exact inferInstance
section ops
variable {p bw bs n T : Nat} {ws : List Int} {st : List Bool}
theorem HT.is {a : Int} (h : HT n T ws st) (k : isObj st a) : ∃ (i : Nat) (w : Int), a = i ∧ st[i]? = some true ∧ ws[i]? = some w ∧ wordB w = true ∧ i < T ∧ 0 ≤ unN w ∧ unN w ≤ 4095 ∧ i + 1 + (unN w).toNat ≤ T ∧ In64 w ∧ 0 ≤ unP w ∧ unP w ≤ unN w := by
  obtain ⟨i, rfl⟩ := Int.eq_ofNat_of_zero_le k.1
  have hk := k.2
  rw [Int.toNat_natCast] at hk
  obtain ⟨w, a1, a2, a3, a4, a5⟩ := h.obj i hk
  obtain ⟨b1, b2⟩ := unN_in a2
  have hgb := of_decide_eq_true (un_packI a2).2.1
  exact ⟨i, w, rfl, hk, a1, a2, h.lt hk, b1, b2, a3, h.w64 w (List.mem_of_getElem? a1), by omega, by omega⟩
theorem HT.not {a : Int} (h : HT n T ws st) (k : ¬ isObj st a) : ¬ (0 ≤ a ∧ a < T ∧ st[a.toNat]? = some true) := fun e => k ⟨e.1, e.2.2⟩
theorem field_noT (at_ f : Int) (h : HT n T ws st) (hs : ¬ isObj st at_) : Does Tryz.prog 57 [ptr p 0, .int .i64 at_, .int .i64 f] (heapL p bw bs n ws T st)
    (fun v l => v = .tuple #[headV 0 0 0, .int .i64 3] ∧ l = heapL p bw bs n ws T st) := by
  have htn := h.tn
  refine Does.of tiok Tryz.func57 (by kernel_rfl) rfl Tryz.ntmps57 rfl ?_
  intro W fr
  repeat' (first | refine Wka ?_ | intro _ | apply And.intro)
  refine JO_l (OL_call [1, 1, 1] rfl rfl rfl (heapHead_no at_ h.sl (by omega) (h.not hs)) rfl) rfl rfl ?_; rintro _ _ ⟨_, ⟨rfl, rfl⟩, rfl⟩
  repeat' (first | refine Wka ?_ | intro _ | apply And.intro)
  exact At_ret rfl rfl (.agg rfl rfl rfl Mmt rfl (.tmp rfl .nil)) rfl (is := [2, 2, 2]) rfl ⟨rfl, rfl⟩
theorem field_outT (i : Nat) (w f : Int) (h : HT n T ws st) (hs : st[i]? = some true) (hw : ws[i]? = some w) (hg : wordB w = true) (hf : ¬ (0 ≤ f ∧ f < unN w)) : Does Tryz.prog 57 [ptr p 0, .int .i64 i, .int .i64 f] (heapL p bw bs n ws T st)
    (fun v l => v = .tuple #[headV 0 0 0, .int .i64 4] ∧ l = heapL p bw bs n ws T st) := by
  have hi := h.lt hs
  have htn := h.tn
  refine Does.of tiok Tryz.func57 (by kernel_rfl) rfl Tryz.ntmps57 rfl ?_
  intro W fr
  repeat' (first | refine Wka ?_ | intro _ | apply And.intro)
  refine JO_l (OL_call [1, 1, 1] rfl rfl rfl (Head_good (T := T) i w (h.w64 w (List.mem_of_getElem? hw)) hg h.sl h.wl (by omega) hi hs hw) rfl) rfl rfl ?_; rintro _ _ ⟨_, ⟨rfl, rfl⟩, rfl⟩
  repeat' (first | refine Wka ?_ | intro _ | apply And.intro)
  all_goals first | (exfalso; omega) | exact At_ret rfl rfl (.agg rfl rfl rfl Mmt rfl (.tmp rfl .nil)) rfl (is := [2, 2, 2]) rfl ⟨rfl, rfl⟩
theorem field_okT (i : Nat) (w f : Int) (h : HT n T ws st) (hs : st[i]? = some true) (hw : ws[i]? = some w) (hg : wordB w = true) (hf : 0 ≤ f ∧ f < unN w) : Does Tryz.prog 57 [ptr p 0, .int .i64 i, .int .i64 f] (heapL p bw bs n ws T st)
    (fun v l => v = .tuple #[headV (unK w) (unN w) (unP w), .int .i64 0] ∧ l = heapL p bw bs n ws T st) := by
  have hi := h.lt hs
  have htn := h.tn
  refine Does.of tiok Tryz.func57 (by kernel_rfl) rfl Tryz.ntmps57 rfl ?_
  intro W fr
  repeat' (first | refine Wka ?_ | intro _ | apply And.intro)
  refine JO_l (OL_call [1, 1, 1] rfl rfl rfl (Head_good (T := T) i w (h.w64 w (List.mem_of_getElem? hw)) hg h.sl h.wl (by omega) hi hs hw) rfl) rfl rfl ?_; rintro _ _ ⟨_, ⟨rfl, rfl⟩, rfl⟩
  repeat' (first | refine Wka ?_ | intro _ | apply And.intro)
  all_goals first | (exfalso; omega) | exact At_ret rfl rfl (.agg rfl rfl rfl Mmt rfl (.tmp rfl .nil)) rfl (is := [2, 2, 2]) rfl ⟨rfl, rfl⟩
theorem leads_spec (word : Int) (h : HT n T ws st) (hw64 : In64 word) : Does Tryz.prog 58 [ptr p 0, .int .i64 word] (heapL p bw bs n ws T st) (fun v l => v = .bool (leadsB ws st word) ∧ l = heapL p bw bs n ws T st) := by
  have htn := h.tn
  have hnb := h.nb
  obtain ⟨hw1, hw2⟩ := hw64
  refine Does.of tiok Tryz.func58 (by kernel_rfl) rfl Tryz.ntmps58 rfl ?_
  intro W fr
  by_cases h0 : word = 0
  · repeat' (first | refine Wka ?_ | intro _ | apply And.intro)
    exact At_ret rfl rfl (.tmp rfl .nil) rfl (is := [0, 0, 0]) rfl ⟨by rw [h0, leadsB_zero]; rfl, rfl⟩
  · by_cases hmin : word = -9223372036854775808
    · subst hmin
      repeat' (first | refine Wka ?_ | intro _ | apply And.intro)
      rw [show IntKind.wrap .i64 (-9223372036854775808 - 1) = 9223372036854775807 by decide]
      refine JO_l (OL_call [0, 0, 0] rfl rfl rfl (heapHead_no 9223372036854775807 h.sl (by omega) (by omega)) rfl) rfl rfl ?_; rintro _ _ ⟨_, ⟨rfl, rfl⟩, rfl⟩
      repeat' (first | refine Wka ?_ | intro _ | apply And.intro)
      exact At_ret rfl rfl (.tmp rfl .nil) rfl (is := [1, 1, 1]) rfl ⟨by
        rw [show leadsB ws st (-9223372036854775808) = false from decide_eq_false (by omega)]; rfl, rfl⟩
    · repeat' (first | refine Wka ?_ | intro _ | apply And.intro)
      by_cases hs : isObj st (word - 1)
      · obtain ⟨i, w, hi, hs2, hw, hg, hlt, _, _, _, h64, _, _⟩ := h.is hs
        rw [hi]
        refine JO_l (OL_call [0, 0, 0] rfl rfl rfl (Head_good (T := T) i w h64 hg h.sl h.wl (by omega) hlt hs2 hw) rfl) rfl rfl ?_; rintro _ _ ⟨_, ⟨rfl, rfl⟩, rfl⟩
        have hlb : leadsB ws st word = decide (¬ unK w = 15) := by
          unfold leadsB
          rw [hi, Int.toNat_natCast, getD_of hw]
          exact decide_eq_decide.2 ⟨fun e => by
            rcases e with e | e
            · exact absurd e h0
            · exact e.2.2, fun e => .inr ⟨by omega, hs2, e⟩⟩
        rw [hlb]
        by_cases hk : unK w = 15
        · repeat' (first | refine Wka ?_ | intro _ | apply And.intro)
          exact At_ret rfl rfl (.tmp rfl .nil) rfl (is := [1, 1, 1]) rfl ⟨by simp [retV, hk], rfl⟩
        · repeat' (first | refine Wka ?_ | intro _ | apply And.intro)
          exact At_ret rfl rfl (.tmp rfl .nil) rfl (is := [1, 1, 1]) rfl ⟨by simp [retV, hk], rfl⟩
      · refine JO_l (OL_call [0, 0, 0] rfl rfl rfl (heapHead_no (word - 1) h.sl (by omega) (h.not hs)) rfl) rfl rfl ?_; rintro _ _ ⟨_, ⟨rfl, rfl⟩, rfl⟩
        repeat' (first | refine Wka ?_ | intro _ | apply And.intro)
        exact At_ret rfl rfl (.tmp rfl .nil) rfl (is := [1, 1, 1]) rfl ⟨by
          rw [show leadsB ws st word = false from decide_eq_false (by
            rintro (e | ⟨e1, e2, e3⟩)
            · exact h0 e
            · exact hs ⟨by omega, e2⟩)]; rfl, rfl⟩
theorem astray_spec (word : Int) (h : HT n T ws st) (hw64 : In64 word) : Does Tryz.prog 100 [ptr p 0, .int .i64 word] (heapL p bw bs n ws T st) (fun v l => v = .bool (!leadsB ws st word) ∧ l = heapL p bw bs n ws T st) := by
  refine Does.of tiok Tryz.func100 (by kernel_rfl) rfl Tryz.ntmps100 rfl ?_
  intro W fr
  repeat' (first | refine Wka ?_ | intro _ | apply And.intro)
  refine JO_l (OL_call [0, 0, 0] rfl rfl rfl (leads_spec word h hw64) rfl) rfl rfl ?_; rintro _ _ ⟨_, ⟨rfl, rfl⟩, rfl⟩
  repeat' (first | refine Wka ?_ | intro _ | apply And.intro)
  exact At_ret rfl rfl (.tmp rfl .nil) rfl (is := [0, 0, 0]) rfl ⟨rfl, rfl⟩
def writeC (ws : List Int) (st : List Bool) (at_ f word : Int) : Int :=
  if ¬ isObj st at_ then 3 else if ¬ (0 ≤ f ∧ f < unN (ws.getD at_.toNat 0)) then 4 else if unK (ws.getD at_.toNat 0) = 15 then 4 else if f < unP (ws.getD at_.toNat 0) ∧ leadsB ws st word = false then 5 else 0
def writeW (ws : List Int) (st : List Bool) (at_ f word : Int) : List Int := if writeC ws st at_ f word = 0 then ws.set (at_.toNat + 1 + f.toNat) word else ws
set_option maxHeartbeats 4000000 in
theorem Write_specT (at_ f word : Int) (h : HT n T ws st) (h64 : In64 word) : Does Tryz.prog 25 [ptr p 0, .int .i64 at_, .int .i64 f, .int .i64 word] (heapL p bw bs n ws T st)
    (fun v l => v = .int .i64 (writeC ws st at_ f word) ∧ l = heapL p bw bs n (writeW ws st at_ f word) T st) := by
  have hwl := h.wl
  have hnb := h.nb
  have htn := h.tn
  refine Does.of tiok Tryz.func25 (by kernel_rfl) rfl Tryz.ntmps25 rfl ?_
  intro W fr
  unfold writeW writeC
  by_cases hs : isObj st at_
  case neg =>
    rw [if_pos hs, if_neg (by decide)]
    repeat' (first | refine Wka ?_ | intro _ | apply And.intro)
    refine JO_l (OL_call [0, 0, 0] rfl rfl rfl (field_noT at_ f h hs) rfl) rfl rfl ?_; rintro _ _ ⟨_, ⟨rfl, rfl⟩, rfl⟩
    repeat' (first | refine Wka ?_ | intro _ | apply And.intro)
    exact At_ret rfl rfl (.tmp rfl .nil) rfl (is := [1, 1, 1]) rfl ⟨rfl, rfl⟩
  case pos =>
    rw [if_neg (fun e => e hs)]
    obtain ⟨i, w, rfl, hs2, hw, hg, hlt, hN1, hN2, hle, h64w, hP1, hP2⟩ := h.is hs
    rw [Int.toNat_natCast, getD_of hw]
    by_cases hf : 0 ≤ f ∧ f < unN w
    case neg =>
      rw [if_pos hf, if_neg (by decide)]
      repeat' (first | refine Wka ?_ | intro _ | apply And.intro)
      refine JO_l (OL_call [0, 0, 0] rfl rfl rfl (field_outT i w f h hs2 hw hg hf) rfl) rfl rfl ?_; rintro _ _ ⟨_, ⟨rfl, rfl⟩, rfl⟩
      repeat' (first | refine Wka ?_ | intro _ | apply And.intro)
      exact At_ret rfl rfl (.tmp rfl .nil) rfl (is := [1, 1, 1]) rfl ⟨rfl, rfl⟩
    case pos =>
      rw [if_neg (fun e => e hf)]
      obtain ⟨m, rfl⟩ := Int.eq_ofNat_of_zero_le hf.1
      rw [Int.toNat_natCast]
      by_cases hk : unK w = 15
      · rw [if_pos hk, if_neg (by decide)]
        repeat' (first | refine Wka ?_ | intro _ | apply And.intro)
        refine JO_l (OL_call [0, 0, 0] rfl rfl rfl (field_okT i w m h hs2 hw hg hf) rfl) rfl rfl ?_; rintro _ _ ⟨_, ⟨rfl, rfl⟩, rfl⟩
        repeat' (first | refine Wka ?_ | intro _ | apply And.intro)
        exact At_ret rfl rfl (.tmp rfl .nil) rfl (is := [1, 1, 1]) rfl ⟨rfl, rfl⟩
      · rw [if_neg hk]
        by_cases hp : (m : Int) < unP w
        · cases hld : leadsB ws st word with
          | false =>
            rw [if_pos ⟨hp, rfl⟩, if_neg (by decide)]
            repeat' (first | refine Wka ?_ | intro _ | apply And.intro)
            refine JO_l (OL_call [0, 0, 0] rfl rfl rfl (field_okT i w m h hs2 hw hg hf) rfl) rfl rfl ?_; rintro _ _ ⟨_, ⟨rfl, rfl⟩, rfl⟩
            repeat' (first | refine Wka ?_ | intro _ | apply And.intro)
            refine JO_l (OL_call [1, 1, 1] rfl rfl rfl (leads_spec word h h64) rfl) rfl rfl ?_; rintro _ _ ⟨_, ⟨rfl, rfl⟩, rfl⟩
            rw [hld]
            repeat' (first | refine Wka ?_ | intro _ | apply And.intro)
            exact At_ret rfl rfl (.tmp rfl .nil) rfl (is := [0, 0, 0]) rfl ⟨rfl, rfl⟩
          | true =>
            rw [if_neg (fun e => by cases e.2), if_pos rfl]
            repeat' (first | refine Wka ?_ | intro _ | apply And.intro)
            refine JO_l (OL_call [0, 0, 0] rfl rfl rfl (field_okT i w m h hs2 hw hg hf) rfl) rfl rfl ?_; rintro _ _ ⟨_, ⟨rfl, rfl⟩, rfl⟩
            repeat' (first | refine Wka ?_ | intro _ | apply And.intro)
            refine JO_l (OL_call [1, 1, 1] rfl rfl rfl (leads_spec word h h64) rfl) rfl rfl ?_; rintro _ _ ⟨_, ⟨rfl, rfl⟩, rfl⟩
            rw [hld]
            repeat' (first | refine Wka ?_ | intro _ | apply And.intro)
            refine JO_val (OV_idx (off := i + 1 + m) rfl rfl rfl rfl (by omega) (by omega) (by omega)) rfl rfl ?_
            refine JO_l0 (OL_store rfl rfl rfl rfl rfl rfl P1 (putL_ints word (by omega))) rfl ?_
            rintro _ _ rfl
            repeat' (first | refine Wka ?_ | intro _ | apply And.intro)
            exact At_ret rfl rfl (.tmp rfl .nil) rfl (is := [1, 0, 0]) rfl ⟨rfl, rfl⟩
        · rw [if_neg (fun e => hp e.1), if_pos rfl]
          repeat' (first | refine Wka ?_ | intro _ | apply And.intro)
          refine JO_l (OL_call [0, 0, 0] rfl rfl rfl (field_okT i w m h hs2 hw hg hf) rfl) rfl rfl ?_; rintro _ _ ⟨_, ⟨rfl, rfl⟩, rfl⟩
          repeat' (first | refine Wka ?_ | intro _ | apply And.intro)
          refine JO_val (OV_idx (off := i + 1 + m) rfl rfl rfl rfl (by omega) (by omega) (by omega)) rfl rfl ?_
          refine JO_l0 (OL_store rfl rfl rfl rfl rfl rfl P2 (putL_ints word (by omega))) rfl ?_
          rintro _ _ rfl
          repeat' (first | refine Wka ?_ | intro _ | apply And.intro)
          exact At_ret rfl rfl (.tmp rfl .nil) rfl (is := [2, 0, 1]) rfl ⟨rfl, rfl⟩
theorem HT.writeW (h : HT n T ws st) (at_ f word : Int) (h64 : In64 word) : HT n T (writeW ws st at_ f word) st := by
  unfold Go.Proofs.YtfmkjbmogfhpbaaGreatDoor.writeW
  split
  · rename_i e
    unfold writeC at e
    split at e
    · cases e
    split at e
    · cases e
    rename_i hs hf
    obtain ⟨i, w, rfl, hs2, hw, hg, hlt, hN1, hN2, hle, h64w, hP1, hP2⟩ := h.is (Decidable.not_not.1 hs)
    rw [Int.toNat_natCast, getD_of hw] at hf
    have hf := Decidable.not_not.1 hf
    obtain ⟨m, rfl⟩ := Int.eq_ofNat_of_zero_le hf.1
    exact h.write i m w word hs2 hw hf.2 h64
  · exact h
theorem RefsOk.writeW (h : HT n T ws st) (hR : RefsOk ws st) (at_ f word : Int) : RefsOk (writeW ws st at_ f word) st := by
  unfold Go.Proofs.YtfmkjbmogfhpbaaGreatDoor.writeW
  split
  · rename_i e
    unfold writeC at e
    split at e
    · cases e
    split at e
    · cases e
    rename_i hs hf
    obtain ⟨i, w, rfl, hs2, hw, hg, hlt, hN1, hN2, hle, h64w, hP1, hP2⟩ := h.is (Decidable.not_not.1 hs)
    rw [Int.toNat_natCast, getD_of hw] at e hf
    have hf := Decidable.not_not.1 hf
    obtain ⟨m, rfl⟩ := Int.eq_ofNat_of_zero_le hf.1
    split at e
    · cases e
    split at e
    · cases e
    rename_i _ hn
    refine RefsOk.write h hR i m w word hs2 hw hf.2 (fun hm => ?_)
    cases hl : leadsB ws st word with
    | true => rfl
    | false => exact absurd ⟨hm, hl⟩ hn
  · exact hR
end ops
open Go.Sep
def splitC (ws : List Int) (st : List Bool) (at_ kd ln pt : Int) : Int :=
  if ¬ isObj st at_ then 3 else if unK (ws.getD at_.toNat 0) ≠ 15 then 2 else if goodB kd ln pt = false then 1 else if unN (ws.getD at_.toNat 0) < ln then 6 else 0
def splitR (ws : List Int) (st : List Bool) (at_ kd ln pt : Int) : Prop := splitC ws st at_ kd ln pt = 0 ∧ unN (ws.getD at_.toNat 0) ≠ ln
instance (ws : List Int) (st : List Bool) (at_ kd ln pt : Int) : Decidable (splitR ws st at_ kd ln pt) := by unfold splitR; exact inferInstance
section ops
variable {p bw bs n T : Nat} {ws : List Int} {st : List Bool}
end ops
open Go.Sep
section ops
variable {p bw bs n T bh : Nat} {ws : List Int} {st : List Bool}
set_option maxHeartbeats 4000000 in
theorem walkGen {σ : Type} (y : Value) (Y : σ → List HP) (Inv : Nat → σ → Prop) (Stop : σ → Prop) (h : HT n T ws st)
    (hy : ∀ (i : Nat) (w : Int) (s : σ), Inv i s → st[i]? = some true → ws[i]? = some w → wordB w = true → i + 1 + (unN w).toNat ≤ T →
      DoesV Tryz.prog y [.int .i64 i, headV (unK w) (unN w) (unP w)] (heapL p bw bs n ws T st ++ Y s)
        (fun v l => (v = .bool true ∧ ∃ s', Inv (i + 1 + (unN w).toNat) s' ∧ l = heapL p bw bs n ws T st ++ Y s') ∨ (v = .bool false ∧ ∃ s', Stop s' ∧ l = heapL p bw bs n ws T st ++ Y s')))
    (s0 : σ) (h0 : Inv 0 s0) :
    Does Tryz.prog 113 [y, ptr bh 0] (blk bh [ptr p 0] 32 :: (heapL p bw bs n ws T st ++ Y s0))
      (fun v l => ∃ s, (Inv T s ∨ Stop s) ∧ v = .tuple #[] ∧ l = blk bh [ptr p 0] 32 :: (heapL p bw bs n ws T st ++ Y s)) := by
  have hwl := h.wl
  have htn := h.tn
  have hnb := h.nb
  refine Does.of tiok Tryz.func113 (by kernel_rfl) rfl Tryz.ntmps113 rfl ?_
  intro W fr
  repeat' (first | refine Wka ?_ | intro _ | apply And.intro)
  refine J_loop (α := Nat × σ) (fun x => x.1 ≤ T ∧ (x.1 = T ∨ st[x.1]? = some true) ∧ Inv x.1 x.2)
    (fun x => [(0, y), (1, ptr bh 0), (3, .int .i64 x.1)])
    (fun x => blk bh [ptr p 0] 32 :: (heapL p bw bs n ws T st ++ Y x.2)) (fun x => T - x.1) (0, s0) ⟨Nat.zero_le _, h.zero.imp (fun e => e.symm) id, h0⟩ Sgt (fun H hl => hl) ?_
  rintro ⟨i, s⟩ ⟨hi, hz, hI⟩
  dsimp only at hi hz hI ⊢
  repeat' (first | refine Wka ?_ | intro _ | apply And.intro)
  · rename_i hlt
    have hs : st[i]? = some true := by
      rcases hz with e | e
      · omega
      · exact e
    obtain ⟨w, hw, hg, hle, hnx, _⟩ := h.obj i hs
    obtain ⟨hN1, hN2⟩ := unN_in hg
    refine JO_val (OV_idx (off := i) rfl rfl rfl rfl (by omega) (by omega) (by simp)) rfl rfl ?_
    refine JO_q (OQ_load (v := .int .i64 w) rfl rfl Mmt (by simp [intsV, hw])) rfl rfl ?_
    refine JO_l (OL_call [] rfl rfl rfl (Unpack_good (h.w64 w (List.mem_of_getElem? hw)) hg) rfl) rfl rfl ?_; rintro _ _ ⟨_, ⟨rfl, rfl⟩, rfl⟩
    repeat' (first | refine Wka ?_ | intro _ | apply And.intro)
    rename_i bx _
    refine JO_l (OL_callV rfl rfl (hy i w s hI hs hw hg hle) (r := [blk bx [.int .i64 (unK w), .int .i64 (unN w), .int .i64 (unP w)] 82, blk bh [ptr p 0] 32]) ?_) rfl rfl ?_
    · exact List.perm_append_comm (l₁ := [blk bx [.int .i64 (unK w), .int .i64 (unN w), .int .i64 (unP w)] 82, blk bh [ptr p 0] 32])
    rintro _ _ ⟨_, ⟨rfl, s', hI', rfl⟩ | ⟨rfl, s', hI', rfl⟩, rfl⟩
    · refine JO_hp (l' := blk bx [.int .i64 (unK w), .int .i64 (unN w), .int .i64 (unP w)] 82 :: blk bh [ptr p 0] 32 :: (heapL p bw bs n ws T st ++ Y s')) (fun H hl => hl.perm List.perm_append_comm) ?_
      repeat' (first | refine Wka ?_ | intro _ | apply And.intro)
      rw [show ((i : Int) + (1 + unN w)) = ((i + 1 + (unN w).toNat : Nat) : Int) by omega]
      exact At_round (i + 1 + (unN w).toNat, s') (by show T - (i + 1 + (unN w).toNat) < T - i; omega) ⟨hle, hnx, hI'⟩ Sgt (fun H hl => hl.tail)
    · refine JO_hp (l' := blk bh [ptr p 0] 32 :: (heapL p bw bs n ws T st ++ Y s')) (fun H hl => (hl.perm List.perm_append_comm).tail) ?_
      repeat' (first | refine Wka ?_ | intro _ | apply And.intro)
      exact At_ret' rfl rfl .nil rfl (fun H hl => hl) ⟨s', .inr hI', rfl, rfl⟩
  · have hii : i = T := by omega
    subst hii
    exact At_end' rfl rfl .nil rfl (fun H hl => hl) ⟨s, .inl hI, rfl, rfl⟩
abbrev astrayV (p : Nat) : Value := .func (.func 100) #[ptr p 0] #[]
set_option maxHeartbeats 4000000 in
theorem IndexFunc_spec (o m cap : Nat) (h : HT n T ws st) (hm : o + m ≤ n) (hmc : m ≤ cap) : Does Tryz.prog 101 [.slice (some ⟨bw, o, none⟩) m cap, astrayV p] (heapL p bw bs n ws T st)
    (fun v l => ∃ r : Int, (-1 ≤ r ∧ r < m ∧ (0 ≤ r ↔ ∃ j : Nat, j < m ∧ leadsB ws st (ws.getD (o + j) 0) = false)) ∧ v = .int .i64 r ∧ l = heapL p bw bs n ws T st) := by
  have hwl := h.wl
  have hnb := h.nb
  refine Does.of tiok Tryz.func101 (by kernel_rfl) rfl Tryz.ntmps101 rfl ?_
  intro W fr
  repeat' (first | refine Wka ?_ | intro _ | apply And.intro)
  refine J_loop (α := Nat) (fun q => q ≤ m ∧ ∀ j, j < q → leadsB ws st (ws.getD (o + j) 0) = true)
    (fun q => [(0, .slice (some ⟨bw, o, none⟩) m cap), (1, astrayV p), (7, .int .i64 m), (8, .int .i64 q)])
    (fun q => heapL p bw bs n ws T st) (fun q => m - q) 0 ⟨Nat.zero_le _, fun j hj => absurd hj (Nat.not_lt_zero _)⟩ Sgt (fun H hl => hl) ?_
  rintro q ⟨hq, hj⟩
  repeat' (first | refine Wka ?_ | intro _ | apply And.intro)
  · rename_i hlt
    obtain ⟨w, hw⟩ : ∃ w, ws[o + q]? = some w := ⟨ws[o + q]'(by omega), List.getElem?_eq_getElem _⟩
    refine JO_val (OV_idx (off := o + q) rfl rfl rfl rfl (by omega) (by omega) (by simp)) rfl rfl ?_
    refine JO_q (OQ_load (v := .int .i64 w) rfl rfl Mmt (by simp [intsV, hw])) rfl rfl ?_
    refine JO_l (OL_call [0, 0, 0] rfl rfl rfl (astray_spec w h (h.w64 w (List.mem_of_getElem? hw))) rfl) rfl rfl ?_; rintro _ _ ⟨_, ⟨rfl, rfl⟩, rfl⟩
    cases hl : leadsB ws st w with
    | true =>
      repeat' (first | refine Wka ?_ | intro _ | apply And.intro)
      refine At_round (q + 1) (by show m - (q + 1) < m - q; omega) ⟨by omega, fun j hj2 => ?_⟩ Sgt (fun H hl => hl)
      by_cases e : j = q
      · subst e; rw [getD_of hw]; exact hl
      · exact hj j (by omega)
    | false =>
      repeat' (first | refine Wka ?_ | intro _ | apply And.intro)
      exact At_ret rfl rfl (.tmp rfl .nil) rfl (is := [0, 0, 0]) rfl ⟨q, ⟨by omega, by omega, fun _ => ⟨q, by omega, by rw [getD_of hw]; exact hl⟩, fun _ => by omega⟩, rfl, rfl⟩
  · obtain rfl : q = m := by omega
    exact At_ret rfl rfl (.tmp rfl .nil) rfl (is := [0, 0, 0]) rfl ⟨-1, ⟨by omega, by omega, fun h => absurd h (by decide), fun ⟨j, h1, h2⟩ => by rw [hj j h1] at h2; cases h2⟩, rfl, rfl⟩
theorem ContainsFunc_spec (o m cap : Nat) (h : HT n T ws st) (hm : o + m ≤ n) (hmc : m ≤ cap) : Does Tryz.prog 65 [.slice (some ⟨bw, o, none⟩) m cap, astrayV p] (heapL p bw bs n ws T st)
    (fun v l => ∃ t : Bool, (t = true ↔ ∃ j : Nat, j < m ∧ leadsB ws st (ws.getD (o + j) 0) = false) ∧ v = .bool t ∧ l = heapL p bw bs n ws T st) := by
  refine Does.of tiok Tryz.func65 (by kernel_rfl) rfl Tryz.ntmps65 rfl ?_
  intro W fr
  repeat' (first | refine Wka ?_ | intro _ | apply And.intro)
  refine JO_l (OL_call [0, 0, 0] rfl rfl rfl (IndexFunc_spec o m cap h hm hmc) rfl) rfl rfl ?_
  rintro _ _ ⟨_, ⟨r, ⟨hr1, hr2, hr3⟩, rfl, rfl⟩, rfl⟩
  by_cases h0 : 0 ≤ r
  · repeat' (first | refine Wka ?_ | intro _ | apply And.intro)
    exact At_ret rfl rfl (.tmp rfl .nil) rfl (is := [0, 0, 0]) rfl ⟨true, ⟨fun _ => hr3.1 h0, fun _ => rfl⟩, by simp [retV, h0], rfl⟩
  · repeat' (first | refine Wka ?_ | intro _ | apply And.intro)
    exact At_ret rfl rfl (.tmp rfl .nil) rfl (is := [0, 0, 0]) rfl ⟨false, ⟨fun e => absurd e (by decide), fun e => absurd (hr3.2 e) h0⟩, by simp [retV]; omega, rfl⟩
def objOk (ws : List Int) (st : List Bool) (i : Nat) (w : Int) : Prop := ∀ j : Nat, (j : Int) < unP w → leadsB ws st (ws.getD (i + 1 + j) 0) = true
set_option maxHeartbeats 8000000 in
theorem Check_spec (h : HT n T ws st) : Does Tryz.prog 64 [ptr p 0] (heapL p bw bs n ws T st)
    (fun v l => ∃ t : Bool, (t = true ↔ RefsOk ws st) ∧ v = .int .i64 (if t then 0 else 5) ∧ l = heapL p bw bs n ws T st) := by
  have hwl := h.wl
  have htn := h.tn
  have hnb := h.nb
  refine Does.ofM tiok Tryz.func64 (by kernel_rfl) rfl Tryz.ntmps64 rfl ?_
  intro W fr
  repeat' (first | refine Wka ?_ | intro _ | apply And.intro)
  refine JO_l (OL_call [] rfl rfl rfl (Walk_spec) rfl) rfl rfl ?_; rintro _ _ ⟨_, ⟨bh, rfl, rfl⟩, rfl⟩
  repeat' (first | refine Wka ?_ | intro _ | apply And.intro)
  rename_i b1 b2
  refine J_rangeFunc (ps := [7, 8]) rfl (fun k d R hrec => ?_)
  let Y : Bool → List HP := fun t => bif t then [pt k (.loop (R .done (some .ret))), pt d (.deferred (some [])), blk b2 [.int .i64 5] 45, blk b1 [ptr p 0] 32] else [pt k (.loop (R .ready none)), pt d (.deferred (some [])), blk b2 [.int .i64 0] 45, blk b1 [ptr p 0] 32]
  let Inv : Nat → Bool → Prop := fun i t => t = false ∧ ∀ (q : Nat) (w : Int), q < i → st[q]? = some true → ws[q]? = some w → objOk ws st q w
  let Stop : Bool → Prop := fun t => t = true ∧ ∃ (q : Nat) (w : Int), st[q]? = some true ∧ ws[q]? = some w ∧ ¬ objOk ws st q w
  have hy : ∀ (i : Nat) (w : Int) (s : Bool), Inv i s → st[i]? = some true → ws[i]? = some w → wordB w = true → i + 1 + (unN w).toNat ≤ T →
      DoesV Tryz.prog (.func (.yield k) #[] #[]) [.int .i64 i, headV (unK w) (unN w) (unP w)] (heapL p bw bs n ws T st ++ Y s)
        (fun v l => (v = .bool true ∧ ∃ s', Inv (i + 1 + (unN w).toNat) s' ∧ l = heapL p bw bs n ws T st ++ Y s') ∨ (v = .bool false ∧ ∃ s', Stop s' ∧ l = heapL p bw bs n ws T st ++ Y s')) := by
    rintro i w s ⟨rfl, hI⟩ hs hw hg hle
    obtain ⟨hN1, hN2⟩ := unN_in hg
    have hgb := of_decide_eq_true (un_packI hg).2.1
    refine DoesV.pre (pre := pt k (.loop (R .ready none)) :: (heapL p bw bs n ws T st ++ [pt d (.deferred (some [])), blk b2 [.int .i64 0] 45, blk b1 [ptr p 0] 32])) ?_ (fun H hl => hl.perm (picks_perm (is := [3]) rfl))
    refine DoesV.yield hrec rfl (by decide) ?_
    intro W fr
    refine J_regs (g' := [(1, ptr b1 0), (2, ptr b2 0), (7, .int .i64 i), (8, headV (unK w) (unN w) (unP w))]) Sgt ?_
    repeat' (first | refine Wka ?_ | intro _ | apply And.intro)
    rename_i b4 _
    refine At_asg hrec P1 ?_
    repeat' (first | refine Wka ?_ | intro _ | apply And.intro)
    refine J_draw [1, 0, 0, 1, 0, 0, 0, 0, 0, 1, 0, 0, 1, 0, 2, 0] (List.range 16) (by kernel_rfl) (by kernel_rfl) ?_
    repeat' (first | refine Wkd ?_ | intro _ | apply And.intro)
    obtain ⟨m, hm⟩ := Int.eq_ofNat_of_zero_le hgb.2.2.2.2.1
    have hmN : m ≤ (unN w).toNat := by omega
    obtain ⟨o, ho, hko⟩ : ∃ o, (if n = ((i : Int) + 1).toNat then some (⟨bw, 0, none⟩ : Addr) else (some (⟨bw, 0, none⟩ : Addr)).map (·.add (((i : Int) + 1).toNat * 1))) = some ⟨bw, o, none⟩ ∧ (o = i + 1 ∨ (o = 0 ∧ m = 0)) := by
      by_cases h : n = ((i : Int) + 1).toNat
      · exact ⟨0, by rw [if_pos h], .inr ⟨rfl, by omega⟩⟩
      · refine ⟨i + 1, ?_, .inl rfl⟩
        rw [if_neg h, Option.map_some, addr_add]
        congr 2; omega
    refine JX_val rfl rfl (OV_slice (m := (i : Int) + 1) (n := (i : Int) + 1 + unP w) rfl rfl rfl rfl rfl rfl rfl (by omega) (by omega) (by omega) ho) rfl rfl ?_
    rw [show ((i : Int) + 1 + unP w).toNat - ((i : Int) + 1).toNat = m by omega]
    repeat' (first | refine Wkd ?_ | intro _ | apply And.intro)
    refine JX_l rfl rfl (OL_call [2, 2, 2] rfl rfl rfl (ContainsFunc_spec o m _ h (by omega) (by omega)) rfl) rfl rfl ?_
    rintro _ _ ⟨_, ⟨t, ht, rfl, rfl⟩, rfl⟩
    repeat' (first | refine Wkd ?_ | intro _ | apply And.intro)
    have hobj : t = false ↔ objOk ws st i w := by
      constructor
      · rintro rfl j hj
        cases hl : leadsB ws st (ws.getD (i + 1 + j) 0) with
        | true => rfl
        | false => exact absurd (ht.2 ⟨j, by omega, by rcases hko with e | e; (rw [e]; exact hl); omega⟩) (by decide)
      · intro ho'
        cases t with
        | false => rfl
        | true =>
          obtain ⟨j, h1, h2⟩ := ht.1 rfl
          rcases hko with e | e
          · rw [e, ho' j (by omega)] at h2; cases h2
          · omega
    cases t with
    | false =>
      repeat' (first | refine Wka ?_ | intro _ | apply And.intro)
      refine At_roundEnd (.inl ⟨rfl, rfl⟩) hrec P3 (l' := heapL p bw bs n ws T st ++ Y false) (fun H hl => (hl.perm (picks_perm (is := [1, 1, 1, 0, 1, 1, 1]) rfl)).left) (.inl ⟨rfl, false, ⟨rfl, fun q x hq hqs hx => ?_⟩, rfl⟩)
      by_cases e : q = i
      · subst e
        rw [hw] at hx; injection hx with hx; subst hx
        exact hobj.1 rfl
      · rcases h.apart hs hw hqs e with c | c
        · exact hI q x c hqs hx
        · omega
    | true =>
      repeat' (first | refine Wka ?_ | intro _ | apply And.intro)
      refine At_roundEnd (.inr (.inl ⟨rfl, rfl⟩)) hrec P4 (l' := heapL p bw bs n ws T st ++ Y true) (fun H hl => (hl.perm (picks_perm (is := [2, 2, 2, 0, 2, 0, 1]) rfl)).left) (.inr ⟨rfl, true, ⟨rfl, i, w, hs, hw, fun e => by have := hobj.2 e; cases this⟩, rfl⟩)
  refine ⟨_, [], _, (fun H hl => ?_), walkGen (bh := bh) (.func (.yield k) #[] #[]) Y Inv Stop h hy false ⟨rfl, fun q w hq => absurd hq (Nat.not_lt_zero _)⟩, ?_⟩
  · have h2 := hl.perm (picks_perm (is := [2, 4, 4, 4, 0, 0, 0, 0]) rfl)
    exact h2
  rintro v l1 ⟨s, hs, rfl, rfl⟩
  rcases hs with ⟨rfl, hI⟩ | ⟨rfl, q, w, hq, hw, hbad⟩
  · refine ⟨.ready, none, pt d (.deferred (some [])) :: blk b2 [.int .i64 0] 45 :: heapL p bw bs n ws T st, by decide, fun H hl => ?_, fun _ => ?_, fun c hc => by cases hc⟩
    · have h2 := hl.perm (picks_perm (is := [4, 4, 4, 1, 1, 1]) rfl)
      exact h2.left
    · refine At_block_normal ?_
      rw [PThen_D (D' := [⟨.collected d, #[]⟩])]
      refine At_then_normal ?_
      repeat' (first | refine Wka ?_ | intro _ | apply And.intro)
      exact At_retM rfl P1 (.cell rfl rfl Mmt rfl .nil) rfl (fun H hl => hl.tail) ⟨true, ⟨fun _ i w hi hw => hI i w (h.lt hi) hi hw, fun _ => rfl⟩, rfl, rfl⟩
  · refine ⟨.done, some .ret, pt d (.deferred (some [])) :: blk b2 [.int .i64 5] 45 :: heapL p bw bs n ws T st, by decide, fun H hl => ?_, fun hc => (by cases hc), fun c hc => ?_⟩
    · have h2 := hl.perm (picks_perm (is := [4, 4, 4, 1, 1, 1]) rfl)
      exact h2.left
    · injection hc with hc
      subst hc
      repeat' (first | refine Wka ?_ | intro _ | apply And.intro)
      exact At_retM rfl P0 (.cell rfl rfl Mmt rfl .nil) rfl (fun H hl => hl.tail) ⟨false, ⟨fun e => absurd e (by decide), fun e => absurd (fun j hj => e q w hq hw j hj) hbad⟩, rfl, rfl⟩
theorem Check_ok (h : HT n T ws st) (hR : RefsOk ws st) : Does Tryz.prog 64 [ptr p 0] (heapL p bw bs n ws T st) (fun v l => v = .int .i64 0 ∧ l = heapL p bw bs n ws T st) :=
  (Check_spec h).mono fun v l ⟨t, ht, hv, hl⟩ => ⟨by rw [hv, ht.2 hR]; rfl, hl⟩
end ops
open Go.Sep
structure RO where
  i : Nat
  k : Int
  p : Int
  ws : List Int
  wa : Option Addr
  wc : Nat
abbrev cellsO (o : RO) : List Value := [.int .i64 o.i, .int .i64 o.k, .int .i64 o.ws.length, .int .i64 o.p, .slice o.wa o.ws.length o.wc]
abbrev rowO (o : RO) : HP := rowz 3 1 o.wa o.ws.length o.wc (intsV o.ws)
def RW (os : List RO) : HP := big (os.map rowO)
abbrev objsZ (a : Option Addr) (cap : Nat) (os : List RO) : HP := rowz 125 5 a os.length cap (os.flatMap cellsO)
abbrev refL (a : Option Addr) (cap : Nat) (os : List RO) : List HP := [objsZ a cap os, RW os]
abbrev refV (size : Int) (a : Option Addr) (n cap : Nat) : Value := .agg #[.int .i64 size, .slice a n cap]
def okW (os : List RO) : Prop := ∀ o ∈ os, o.wa = none → o.ws.length = 0 ∧ o.wc = 0
theorem one_star {p : HP} {h H : PH} (s : Sub h H) (k : p h) : Stars [p] H := ⟨h, fun _ => none, fun _ => .inr rfl, s, (fun _ _ e => by cases e), k, trivial⟩
theorem rowz_none {T sz m cap : Nat} {cs : List Value} {h : PH} (k : rowz T sz none m cap cs h) : m = 0 ∧ cap = 0 := by
  rcases k with ⟨h1, h2, _⟩ | ⟨_, h1, h2, _⟩ | ⟨b, pre, sp, e, _⟩
  · exact ⟨h1, h2⟩
  · exact ⟨h1, h2⟩
  · cases e
theorem RW_ok {W w : World} {l : List HP} {os : List RO} (hs : Sat W l w) (hm : RW os ∈ l) : okW os := by
  intro o ho hn
  obtain ⟨h1, s1, k1⟩ := hs.stars.mem hm
  obtain ⟨h2, s2, k2⟩ := Stars.mem (l := os.map rowO) k1 (List.mem_map_of_mem (f := rowO) ho)
  have k3 : rowz 3 1 o.wa o.ws.length o.wc (intsV o.ws) h2 := k2
  rw [hn] at k3
  exact rowz_none k3
theorem RW.reads {os : List RO} {o : RO} (ho : o ∈ os) (ok : okW os) : Reads (RW os) 1 o.ws.length o.wa o.wc (intsV o.ws) := by
  have hr : Reads (rowO o) 1 o.ws.length o.wa o.wc (intsV o.ws) := Reads.rowz (by simp) (ok o ho)
  refine ⟨by simp, ok o ho, fun W l w hs hm i hi => ?_⟩
  obtain ⟨h1, s1, k1⟩ := hs.stars.mem hm
  obtain ⟨h2, s2, k2⟩ := Stars.mem (l := os.map rowO) k1 (List.mem_map_of_mem (f := rowO) ho)
  exact hr.cell W [rowO o] w ⟨hs.os, hs.tape, hs.output, one_star (s2.trans s1) k2⟩ (.head _) i hi
theorem RW.to {news os os' dr : List RO} {l : List HP} {H : PH} (h : (news ++ os).Perm (os' ++ dr)) (hs : Stars (news.map rowO ++ RW os :: l) H) : Stars (RW os' :: l) H := by
  have h1 : Stars (big (os.map rowO) :: (news.map rowO ++ l)) H := hs.perm List.perm_middle
  have h2 := h1.open
  have h3 : Stars (os'.map rowO ++ (dr.map rowO ++ l)) H := by
    refine h2.perm ?_
    rw [← List.append_assoc, ← List.append_assoc, ← List.map_append, ← List.map_append]
    exact ((List.perm_append_comm.trans h).map rowO).append_right _
  obtain ⟨a, b, ap, s1, s2, p1, p2⟩ := h3.app
  exact (Stars.unapp ap s1 s2 p1 p2.right).shut
theorem objs_get {os : List RO} {j : Nat} {o : RO} (h : os[j]? = some o) {r : Nat} (hr : r < 5) : (os.flatMap cellsO)[j * 5 + r]? = (cellsO o)[r]? := flat_get (f := cellsO) (fun _ _ => rfl) h hr
theorem objs_take {os : List RO} {j : Nat} {o : RO} (h : os[j]? = some o) : takeL (os.flatMap cellsO) (j * 5) 5 = some (cellsO o) := flat_take (f := cellsO) (fun _ _ => rfl) h
theorem objs_len {os : List RO} : (os.flatMap cellsO).length = os.length * 5 := flat_len (f := cellsO) (fun _ _ => rfl)
def Ch (ws : List Int) : Nat → List RO → Nat → Prop
  | i, [], T => i = T
  | i, o :: r, T => o.i = i ∧ goodB o.k o.ws.length o.p = true ∧ ws[i]? = some (packI o.k o.ws.length o.p) ∧ (∀ j : Nat, j < o.ws.length → ws[i + 1 + j]? = o.ws[j]?) ∧ Ch ws (i + 1 + o.ws.length) r T
theorem Ch.le {ws : List Int} : ∀ {os : List RO} {i T : Nat}, Ch ws i os T → i ≤ T
  | [], i, T, h => Nat.le_of_eq h
  | o :: r, i, T, h => by have := Ch.le h.2.2.2.2; omega
theorem Ch.len {ws : List Int} : ∀ {os : List RO} {i T : Nat}, Ch ws i os T → i + os.length ≤ T
  | [], i, T, h => Nat.le_of_eq h
  | o :: r, i, T, h => by have := Ch.len h.2.2.2.2; simp; omega
theorem Ch.app {ws : List Int} {b : List RO} {T : Nat} : ∀ {a : List RO} {i : Nat}, Ch ws i (a ++ b) T ↔ ∃ m, Ch ws i a m ∧ Ch ws m b T
  | [], i => ⟨fun h => ⟨i, rfl, h⟩, fun ⟨m, h1, h2⟩ => by cases h1; exact h2⟩
  | o :: r, i => by
    constructor
    · rintro ⟨h1, h2, h3, h4, h5⟩
      obtain ⟨m, k1, k2⟩ := Ch.app.1 h5
      exact ⟨m, ⟨h1, h2, h3, h4, k1⟩, k2⟩
    · rintro ⟨m, ⟨h1, h2, h3, h4, h5⟩, k⟩
      exact ⟨h1, h2, h3, h4, Ch.app.2 ⟨m, h5, k⟩⟩
theorem Ch.keep {ws ws' : List Int} : ∀ {os : List RO} {i T : Nat}, Ch ws i os T → (∀ j, i ≤ j → j < T → ws'[j]? = ws[j]?) → Ch ws' i os T
  | [], i, T, h, _ => h
  | o :: r, i, T, ⟨h1, h2, h3, h4, h5⟩, k => by
    have := h5.le
    exact ⟨h1, h2, by rw [k i (Nat.le_refl _) (by omega)]; exact h3, fun j hj => by rw [k _ (by omega) (by omega)]; exact h4 j hj, h5.keep fun j a b => k j (by omega) b⟩
theorem Ch.at {ws : List Int} {os : List RO} {i T j : Nat} {o : RO} (h : Ch ws i os T) (hj : os[j]? = some o) : Ch ws i (os.take j) o.i ∧ Ch ws o.i (o :: os.drop (j + 1)) T := by
  have hlt : j < os.length := (List.getElem?_eq_some_iff.1 hj).1
  have e : os = os.take j ++ o :: os.drop (j + 1) := by
    conv => lhs; rw [← List.take_append_drop j os]
    rw [List.drop_eq_getElem_cons hlt]
    rw [List.getElem?_eq_getElem hlt] at hj
    injection hj with hj
    rw [hj]
  rw [e] at h
  obtain ⟨m, h1, h2⟩ := Ch.app.1 h
  obtain rfl := h2.1
  exact ⟨h1, h2⟩
theorem Ch.end_ {ws : List Int} {os : List RO} {i T j : Nat} {o : RO} (h : Ch ws i os T) (hj : os[j]? = some o) : Ch ws i (os.take (j + 1)) (o.i + 1 + o.ws.length) := by
  obtain ⟨h1, h2⟩ := h.at hj
  have hlt : j < os.length := (List.getElem?_eq_some_iff.1 hj).1
  rw [List.getElem?_eq_getElem hlt] at hj
  injection hj with hj
  rw [List.take_add_one, List.getElem?_eq_getElem hlt, hj, Option.toList_some]
  exact Ch.app.2 ⟨o.i, h1, rfl, h2.2.1, h2.2.2.1, h2.2.2.2.1, rfl⟩
def findR (os : List RO) (x r : Int) : Prop := (∃ (j : Nat) (o : RO), r = j ∧ os[j]? = some o ∧ (o.i : Int) = x) ∨ (r = -1 ∧ ∀ o ∈ os, (o.i : Int) ≠ x)
def posAt (os : List RO) (T q : Nat) : Nat := match os[q]? with | some o => o.i | none => T
theorem Ch.pos0 {ws : List Int} {os : List RO} {i T : Nat} (h : Ch ws i os T) : posAt os T 0 = i := by
  cases os with
  | nil => exact h.symm
  | cons o r => exact h.1
theorem posAt_of {os : List RO} {T q : Nat} {o : RO} (h : os[q]? = some o) : posAt os T q = o.i := by unfold posAt; rw [h]
theorem posAt_end {os : List RO} {T : Nat} : posAt os T os.length = T := by unfold posAt; rw [List.getElem?_eq_none (Nat.le_refl _)]
theorem Ch.pos_le {ws : List Int} {os : List RO} {i T : Nat} (h : Ch ws i os T) (q : Nat) : posAt os T q ≤ T := by
  unfold posAt
  split
  · rename_i o ho
    have := (h.at ho).2.le
    exact this
  · exact Nat.le_refl _
theorem Ch.pos {ws : List Int} {os : List RO} {i T q : Nat} {o : RO} (h : Ch ws i os T) (hq : os[q]? = some o) : posAt os T (q + 1) = o.i + 1 + o.ws.length := by
  have h2 := (h.at hq).2.2.2.2.2.pos0
  rw [← h2]
  unfold posAt
  rw [List.getElem?_drop]
section starts
variable {n T : Nat} {ws : List Int} {st : List Bool}
theorem Ch.start (h : HT n T ws st) : ∀ {os : List RO} {i : Nat}, Ch ws i os T → (i = T ∨ st[i]? = some true) → ∀ o ∈ os, st[o.i]? = some true
  | [], i, _, _ => fun o ho => by cases ho
  | o :: r, i, ⟨h1, h2, h3, h4, h5⟩, hi => by
    have hle := h5.le
    have hs : st[i]? = some true := by
      rcases hi with e | e
      · omega
      · exact e
    obtain ⟨w, b1, b2, b3, b4, b5⟩ := h.obj i hs
    rw [h3] at b1; injection b1 with b1; subst b1
    rw [(packI_un h2).2.2.2.1, Int.toNat_natCast] at b4
    intro o' ho
    rcases List.mem_cons.1 ho with rfl | ho
    · rw [h1]; exact hs
    · exact Ch.start h h5 b4 o' ho
theorem Ch.find (h : HT n T ws st) : ∀ {os : List RO} {i : Nat}, Ch ws i os T → (i = T ∨ st[i]? = some true) → ∀ q, i ≤ q → st[q]? = some true → ∃ o ∈ os, o.i = q
  | [], i, hc, _ => fun q hq hs => by
    have := h.lt hs
    have : i = T := hc
    omega
  | o :: r, i, ⟨h1, h2, h3, h4, h5⟩, hi => fun q hq hs => by
    have hle := h5.le
    have hsi : st[i]? = some true := by
      rcases hi with e | e
      · omega
      · exact e
    obtain ⟨w, b1, b2, b3, b4, b5⟩ := h.obj i hsi
    rw [h3] at b1; injection b1 with b1; subst b1
    rw [(packI_un h2).2.2.2.1, Int.toNat_natCast] at b4 b5
    by_cases e : q = i
    · exact ⟨o, .head _, by omega⟩
    · by_cases e2 : q < i + 1 + o.ws.length
      · exact absurd hs (b5 q (by omega) e2)
      · obtain ⟨o', ho', e'⟩ := Ch.find h h5 b4 q (by omega) hs
        exact ⟨o', .tail _ ho', e'⟩
theorem findR_some {os : List RO} {x : Int} {j : Nat} {o : RO} (h : HT n T ws st) (hc : Ch ws 0 os T) (hj : os[j]? = some o) : isObj st o.i ∧ ws[o.i]? = some (packI o.k o.ws.length o.p) ∧ goodB o.k o.ws.length o.p = true ∧ o.i + 1 + o.ws.length ≤ T ∧ ∀ q : Nat, q < o.ws.length → ws[o.i + 1 + q]? = o.ws[q]? := by
  have h2 := (hc.at hj).2
  exact ⟨⟨by omega, by rw [Int.toNat_natCast]; exact Ch.start h hc (h.zero.imp (fun e => e.symm) id) o (List.mem_of_getElem? hj)⟩, h2.2.2.1, h2.2.1, h2.2.2.2.2.le, h2.2.2.2.1⟩
theorem findR_none {os : List RO} {x : Int} (h : HT n T ws st) (hc : Ch ws 0 os T) (hx : ∀ o ∈ os, (o.i : Int) ≠ x) : ¬ isObj st x := by
  rintro ⟨h0, hs⟩
  obtain ⟨o, ho, e⟩ := Ch.find h hc (h.zero.imp (fun e => e.symm) id) _ (Nat.zero_le _) hs
  exact hx o ho (by omega)
end starts
section ops
variable {a : Option Addr} {cap : Nat} {os : List RO}
set_option maxHeartbeats 4000000 in
theorem Find_spec (size x : Int) (hb : os.length ≤ 65536) : Does Tryz.prog 59 [refV size a os.length cap, .int .i64 x] (refL a cap os)
    (fun v l => ∃ r : Int, findR os x r ∧ v = .int .i64 r ∧ l = refL a cap os) := by
  refine Does.of tiok Tryz.func59 (by kernel_rfl) rfl Tryz.ntmps59 rfl ?_
  intro W fr
  refine J_rowzf P0 ?_
  rintro ⟨hl, hn, hc⟩
  have hR : Reads (objsZ a cap os) 5 os.length a cap (os.flatMap cellsO) := Reads.rowz hl hn
  repeat' (first | refine Wka ?_ | intro _ | apply And.intro)
  rename_i bx
  refine J_loop (α := Nat) (fun q => q ≤ os.length ∧ ∀ (j : Nat) (o : RO), j < q → os[j]? = some o → (o.i : Int) ≠ x)
    (fun q => [(1, .int .i64 x), (2, ptr bx 0), (8, .int .i64 os.length), (9, .int .i64 q)])
    (fun q => blk bx [.int .i64 size, .slice a os.length cap] 36 :: refL a cap os) (fun q => os.length - q) 0 ⟨Nat.zero_le _, fun j o hj => absurd hj (Nat.not_lt_zero _)⟩ Sgt (fun H hl => hl) ?_
  rintro q ⟨hq, hI⟩
  repeat' (first | refine Wka ?_ | intro _ | apply And.intro)
  · rename_i hlt
    have hlt' : q < os.length := by omega
    obtain ⟨o, ho⟩ : ∃ o, os[q]? = some o := ⟨os[q], List.getElem?_eq_getElem _⟩
    refine JO_fact _ (fun w hs => hR.some (by omega) hs (.tail _ (.head _))) ?_
    rintro ⟨b, of, rfl⟩
    refine JO_val (OV_idx (off := of + q * 5) rfl rfl rfl rfl (by omega) (by omega) (by simp)) rfl rfl ?_
    repeat' (first | refine Wka ?_ | intro _ | apply And.intro)
    refine JO_q (OQ_read (i := q * 5 + 0) (v := .int .i64 o.i) hR (.tail _ (.head _)) rfl rfl (by omega) (by rw [objs_get ho (by omega)]; rfl)) rfl rfl ?_
    repeat' (first | refine Wka ?_ | intro _ | apply And.intro)
    · rename_i he
      exact At_ret rfl rfl (.tmp rfl .nil) rfl (is := [1, 1]) rfl ⟨q, .inl ⟨q, o, rfl, ho, by omega⟩, rfl, rfl⟩
    · rename_i he
      refine At_round (q + 1) (by show os.length - (q + 1) < os.length - q; omega) ⟨by omega, fun j o' hj hj2 => ?_⟩ Sgt (fun H hl => hl)
      by_cases e : j = q
      · subst e
        rw [ho] at hj2; injection hj2 with hj2; subst hj2
        omega
      · exact hI j o' (by omega) hj2
  · have hqq : q = os.length := by omega
    subst hqq
    refine At_ret rfl rfl (.tmp rfl .nil) rfl (is := [1, 1]) rfl ⟨-1, .inr ⟨rfl, fun o ho => ?_⟩, rfl, rfl⟩
    obtain ⟨j, hj⟩ := List.getElem?_of_mem ho
    exact hI j o (List.getElem?_eq_some_iff.1 hj).1 hj
set_option maxHeartbeats 4000000 in
theorem Top_spec {ws : List Int} {T : Nat} (size : Int) (h : Ch ws 0 os T) (hT : T ≤ 65536) : Does Tryz.prog 56 [refV size a os.length cap] (refL a cap os)
    (fun v l => v = .int .i64 T ∧ l = refL a cap os) := by
  have hlen := h.len
  refine Does.of tiok Tryz.func56 (by kernel_rfl) rfl Tryz.ntmps56 rfl ?_
  intro W fr
  refine J_rowzf P0 ?_
  rintro ⟨hl, hn, hc⟩
  have hR : Reads (objsZ a cap os) 5 os.length a cap (os.flatMap cellsO) := Reads.rowz hl hn
  repeat' (first | refine Wka ?_ | intro _ | apply And.intro)
  rename_i bx
  refine J_loop (α := Nat) (fun q => q ≤ os.length)
    (fun q => [(1, ptr bx 0), (3, .int .i64 (posAt os T q)), (7, .int .i64 os.length), (8, .int .i64 q)])
    (fun q => blk bx [.int .i64 size, .slice a os.length cap] 36 :: refL a cap os) (fun q => os.length - q) 0 (Nat.zero_le _) ?_ (fun H hl => hl) ?_
  · rw [h.pos0]; exact Sgt
  intro q hq
  have hpb := h.pos_le q
  repeat' (first | refine Wka ?_ | intro _ | apply And.intro)
  · rename_i hlt
    have hlt' : q < os.length := by omega
    obtain ⟨o, ho⟩ : ∃ o, os[q]? = some o := ⟨os[q], List.getElem?_eq_getElem _⟩
    have hp := posAt_of (T := T) ho
    have hp2 := h.pos ho
    have hle : o.i + 1 + o.ws.length ≤ T := (h.at ho).2.2.2.2.2.le
    refine JO_fact _ (fun w hs => hR.some (by omega) hs (.tail _ (.head _))) ?_
    rintro ⟨b, of, rfl⟩
    refine JO_val (OV_idx (off := of + q * 5) rfl rfl rfl rfl (by omega) (by omega) (by simp)) rfl rfl ?_
    repeat' (first | refine Wka ?_ | intro _ | apply And.intro)
    refine JO_q (OQ_read (i := q * 5 + 2) (v := .int .i64 o.ws.length) hR (.tail _ (.head _)) rfl rfl (by omega) (by rw [objs_get ho (by omega)]; rfl)) rfl rfl ?_
    repeat' (first | refine Wka ?_ | intro _ | apply And.intro)
    refine At_round (q + 1) (by show os.length - (q + 1) < os.length - q; omega) (show q + 1 ≤ os.length by omega) ?_ (fun H hl => hl)
    rw [hp2, show ((o.i + 1 + o.ws.length : Nat) : Int) = (posAt os T q : Int) + 1 + o.ws.length by omega]
    exact Sgt
  · have hqq : q = os.length := by omega
    subst hqq
    exact At_ret rfl rfl (.tmp rfl .nil) rfl (is := [1, 1]) rfl ⟨by rw [posAt_end]; rfl, rfl⟩
set_option maxHeartbeats 4000000 in
theorem Leads_spec {n T : Nat} {ws : List Int} {st : List Bool} (size x : Int) (h : HT n T ws st) (hc : Ch ws 0 os T) (hx : In64 x) : Does Tryz.prog 60 [refV size a os.length cap, .int .i64 x] (refL a cap os)
    (fun v l => v = .bool (leadsB ws st x) ∧ l = refL a cap os) := by
  have hlen := hc.len
  have htn := h.tn
  have hnb := h.nb
  obtain ⟨hx1, hx2⟩ := hx
  refine Does.of tiok Tryz.func60 (by kernel_rfl) rfl Tryz.ntmps60 rfl ?_
  intro W fr
  refine J_rowzf P0 ?_
  rintro ⟨hl, hn, hcc⟩
  have hR : Reads (objsZ a cap os) 5 os.length a cap (os.flatMap cellsO) := Reads.rowz hl hn
  repeat' (first | refine Wka ?_ | intro _ | apply And.intro)
  · rename_i bx hle
    refine At_ret rfl rfl (.tmp rfl .nil) rfl (is := [1, 1]) rfl ⟨?_, rfl⟩
    refine congrArg Value.bool ?_
    unfold leadsB
    exact decide_eq_decide.2 (by omega)
  · rename_i bx hle
    refine JO_l (OL_call [1, 1] rfl rfl rfl (Find_spec _ _ (by omega)) rfl) rfl rfl ?_; rintro _ _ ⟨_, ⟨r, hr, rfl, rfl⟩, rfl⟩
    rcases hr with ⟨j, o, rfl, hj, hi⟩ | ⟨rfl, hno⟩
    · obtain ⟨⟨_, k1⟩, k2, k3, k4, k5⟩ := findR_some (x := x) h hc hj
      have hjl : j < os.length := (List.getElem?_eq_some_iff.1 hj).1
      repeat' (first | refine Wka ?_ | intro _ | apply And.intro)
      refine JO_fact _ (fun w hs => hR.some (by omega) hs Mmt) ?_
      rintro ⟨b, of, rfl⟩
      refine JO_val (OV_idx (off := of + j * 5) rfl rfl rfl rfl (by omega) (by omega) (by simp)) rfl rfl ?_
      repeat' (first | refine Wka ?_ | intro _ | apply And.intro)
      refine JO_q (OQ_read (i := j * 5 + 1) (v := .int .i64 o.k) hR Mmt rfl rfl (by omega) (by rw [objs_get hj (by omega)]; rfl)) rfl rfl ?_
      repeat' (first | refine Wka ?_ | intro _ | apply And.intro)
      refine At_ret rfl rfl (.tmp rfl .nil) rfl (is := [0, 0]) rfl ⟨congrArg Value.bool ?_, rfl⟩
      unfold leadsB
      have e : (x - 1).toNat = o.i := by omega
      rw [e, getD_of k2, (packI_un k3).2.2.1]
      rw [Int.toNat_natCast] at k1
      simp only [k1]
      have e0 : ¬ x = 0 := by omega
      have e1 : 1 ≤ x := by omega
      simp [e0, e1]
    · have hno' := findR_none h hc hno
      repeat' (first | refine Wka ?_ | intro _ | apply And.intro)
      refine At_ret rfl rfl (.tmp rfl .nil) rfl (is := [0, 0]) rfl ⟨congrArg Value.bool ?_, rfl⟩
      unfold leadsB
      refine (decide_eq_false ?_).symm
      rintro (e | ⟨e1, e2, _⟩)
      · omega
      · exact hno' ⟨by omega, e2⟩
end ops
open Go.Sep
def okO (ws : List Int) (st : List Bool) (o : RO) : Prop := ∀ (j : Nat) (x : Int), (j : Int) < o.p → o.ws[j]? = some x → leadsB ws st x = true
theorem refs_iff {n T : Nat} {ws : List Int} {st : List Bool} {os : List RO} (h : HT n T ws st) (hc : Ch ws 0 os T) : RefsOk ws st ↔ ∀ o ∈ os, okO ws st o := by
  constructor
  · intro hr o ho j x hj hx
    obtain ⟨q, hq⟩ := List.getElem?_of_mem ho
    obtain ⟨⟨_, k1⟩, k2, k3, k4, k5⟩ := findR_some (x := 0) h hc hq
    rw [Int.toNat_natCast] at k1
    have hjl := (List.getElem?_eq_some_iff.1 hx).1
    have := hr o.i _ k1 k2 j (by rw [(packI_un k3).2.2.2.2]; exact hj)
    rw [getD_of ((k5 j hjl).trans hx)] at this
    exact this
  · intro hr i w hs hw j hj
    obtain ⟨o, ho, e⟩ := Ch.find h hc (h.zero.imp (fun e => e.symm) id) i (Nat.zero_le _) hs
    subst e
    obtain ⟨q, hq⟩ := List.getElem?_of_mem ho
    obtain ⟨⟨_, k1⟩, k2, k3, k4, k5⟩ := findR_some (x := 0) h hc hq
    rw [hw] at k2; injection k2 with k2; subst k2
    rw [(packI_un k3).2.2.2.2] at hj
    have hgb := of_decide_eq_true k3
    have hjl : j < o.ws.length := by omega
    rw [getD_of ((k5 j hjl).trans (List.getElem?_eq_getElem hjl))]
    exact hr o ho j _ hj (List.getElem?_eq_getElem hjl)
theorem Ch.mem64 {n T : Nat} {ws : List Int} {st : List Bool} {os : List RO} (h : HT n T ws st) (hc : Ch ws 0 os T) {o : RO} (ho : o ∈ os) {j : Nat} {x : Int} (hx : o.ws[j]? = some x) : In64 x := by
  obtain ⟨q, hq⟩ := List.getElem?_of_mem ho
  obtain ⟨_, k2, k3, k4, k5⟩ := findR_some (x := 0) h hc hq
  have hjl := (List.getElem?_eq_some_iff.1 hx).1
  exact h.w64 x (List.mem_of_getElem? ((k5 j hjl).trans hx))
section ops
variable {a : Option Addr} {cap : Nat} {os : List RO} {n T : Nat} {ws : List Int} {st : List Bool}
theorem map_add0 (p : Option Addr) : p.map (·.add (0 * 1)) = p := by
  cases p with
  | none => rfl
  | some x => obtain ⟨b, o, m⟩ := x; cases m <;> rfl
theorem Ch.pos_T (hc : Ch ws 0 os T) {q : Nat} (hq : q ≤ os.length) (e : posAt os T q = T) : q = os.length := by
  rcases Nat.lt_or_ge q os.length with c | c
  · have ho : os[q]? = some os[q] := List.getElem?_eq_getElem _
    have := posAt_of (T := T) ho
    have := (hc.at ho).2.2.2.2.2.le
    omega
  · omega
end ops
open Go.Sep
theorem Ch.snoc {ws : List Int} {os : List RO} {i T : Nat} {o : RO} (h : Ch ws i os T) (h1 : o.i = T) (h2 : goodB o.k o.ws.length o.p = true) (h3 : ws[T]? = some (packI o.k o.ws.length o.p)) (h4 : ∀ j : Nat, j < o.ws.length → ws[T + 1 + j]? = o.ws[j]?) : Ch ws i (os ++ [o]) (T + 1 + o.ws.length) :=
  Ch.app.2 ⟨T, h, h1, h2, h3, h4, rfl⟩
theorem RW_nil {l : List HP} {H : PH} (h : Stars l H) : Stars (RW [] :: l) H := Stars.shut (ps := []) h
section ops
variable {R : HP} {a : Option Addr} {cap : Nat}
end ops
open Go.Sep
theorem perm_set {α : Type} {x o : α} : ∀ {os : List α} {j : Nat}, os[j]? = some o → (x :: os).Perm (os.set j x ++ [o])
  | [], j, h => by simp at h
  | y :: r, 0, h => by
    simp at h
    subst h
    refine List.Perm.cons x ?_
    exact List.perm_append_comm (l₁ := [y]) (l₂ := r)
  | y :: r, j + 1, h => by
    have h1 : r[j]? = some o := by simpa using h
    exact (List.Perm.swap y x r).trans ((perm_set h1).cons y)
theorem put_words {o x : RO} (hx : x.i = o.i ∧ x.k = o.k ∧ x.p = o.p ∧ x.ws.length = o.ws.length) : ∀ {os : List RO} {j : Nat}, os[j]? = some o → putL (os.flatMap cellsO) (j * 5 + 4) [.slice x.wa x.ws.length x.wc] = some ((os.set j x).flatMap cellsO)
  | [], j, h => by simp at h
  | y :: r, 0, h => by
    simp at h
    subst h
    obtain ⟨h1, h2, h3, h4⟩ := hx
    rw [putL_split (by simp)]
    simp [h1, h2, h3, h4]
  | y :: r, j + 1, h => by
    have h1 : r[j]? = some o := by simpa using h
    have ih := put_words (os := r) hx h1
    have hj := (List.getElem?_eq_some_iff.1 h1).1
    have hl : (r.flatMap cellsO).length = r.length * 5 := objs_len
    rw [putL_split (by rw [hl]; simp; omega)] at ih
    injection ih with ih
    rw [putL_split (by simp only [List.flatMap_cons, List.length_append, hl]; simp; omega)]
    simp only [List.flatMap_cons, List.set_cons_succ]
    rw [← ih]
    rw [show (j + 1) * 5 + 4 = (cellsO y).length + (j * 5 + 4) by simp; omega, List.take_length_add_append, show (cellsO y).length + (j * 5 + 4) + [Value.slice x.wa x.ws.length x.wc].length = (cellsO y).length + (j * 5 + 4 + [Value.slice x.wa x.ws.length x.wc].length) by omega, List.drop_length_add_append]
    simp
theorem Ch.write {ws : List Int} {o : RO} {m : Nat} {word : Int} {wa : Option Addr} {wc : Nat} (hm : m < o.ws.length) : ∀ {os : List RO} {i T j : Nat}, Ch ws i os T → os[j]? = some o → Ch (ws.set (o.i + 1 + m) word) i (os.set j { o with ws := o.ws.set m word, wa := wa, wc := wc }) T
  | [], i, T, j, _, hj => by simp at hj
  | y :: r, i, T, 0, ⟨h1, h2, h3, h4, h5⟩, hj => by
    simp at hj
    subst hj
    have hb := (List.getElem?_eq_some_iff.1 ((h4 m hm).trans (List.getElem?_eq_getElem hm))).1
    refine ⟨h1, by simpa using h2, ?_, ?_, ?_⟩
    · rw [List.getElem?_set_ne (by omega)]
      simpa using h3
    · intro q hq
      have hq' : q < y.ws.length := by simpa using hq
      dsimp only
      rw [List.getElem?_set, List.getElem?_set]
      by_cases e : m = q
      · subst e
        rw [if_pos (by omega), if_pos rfl, if_pos (by omega), if_pos hm]
      · rw [if_neg (by omega), if_neg e]
        exact h4 q hq'
    · have e : (y.ws.set m word).length = y.ws.length := by simp
      show Ch _ (i + 1 + (y.ws.set m word).length) r T
      rw [e]
      exact h5.keep fun j a b => List.getElem?_set_ne (by omega)
  | y :: r, i, T, j + 1, ⟨h1, h2, h3, h4, h5⟩, hj => by
    have hj1 : r[j]? = some o := by simpa using hj
    have hle := (h5.at hj1).1.le
    refine ⟨h1, h2, ?_, ?_, Ch.write hm h5 hj1⟩
    · rw [List.getElem?_set_ne (by omega)]
      exact h3
    · intro q hq
      rw [List.getElem?_set_ne (by omega)]
      exact h4 q hq
section ops
variable {a : Option Addr} {cap : Nat} {os : List RO} {n T : Nat} {ws : List Int} {st : List Bool}
set_option maxHeartbeats 16000000 in
theorem refWrite_spec (size x f word : Int) (h : HT n T ws st) (hc : Ch ws 0 os T) (h64 : In64 word) : Does Tryz.prog 27 [refV size a os.length cap, .int .i64 x, .int .i64 f, .int .i64 word] (refL a cap os)
    (fun v l => ∃ a' cap' os', Ch (writeW ws st x f word) 0 os' T ∧ v = .tuple #[refV size a' os'.length cap', .int .i64 (writeC ws st x f word)] ∧ l = refL a' cap' os') := by
  have hlen := hc.len
  have htn := h.tn
  have hnb := h.nb
  refine Does.of tiok Tryz.func27 (by kernel_rfl) rfl Tryz.ntmps27 rfl ?_
  intro W fr
  refine J_rowzf P0 ?_
  rintro ⟨hl, hnn, hcc⟩
  have hR : Reads (objsZ a cap os) 5 os.length a cap (os.flatMap cellsO) := Reads.rowz hl hnn
  refine J_fact _ (fun w hs => RW_ok hs (.tail _ (.head _))) (fun ok => ?_)
  repeat' (first | refine Wka ?_ | intro _ | apply And.intro)
  refine JO_l (OL_call [2, 2] rfl rfl rfl (Find_spec _ _ (by omega)) rfl) rfl rfl ?_; rintro _ _ ⟨_, ⟨r, hr, rfl, rfl⟩, rfl⟩
  rcases hr with ⟨j, o, rfl, hj, hi⟩ | ⟨rfl, hno⟩
  case inr =>
    have hno' := findR_none h hc hno
    have hC : writeC ws st x f word = 3 := by unfold writeC; rw [if_pos hno']
    have hW : writeW ws st x f word = ws := by unfold writeW; rw [hC]; rfl
    rw [hC, hW]
    repeat' (first | refine Wka ?_ | intro _ | apply And.intro)
    exact At_ret rfl rfl (.agg rfl rfl rfl Mmt rfl (.tmp rfl .nil)) rfl (is := [1, 1]) rfl ⟨a, cap, os, hc, rfl, rfl⟩
  obtain ⟨k0, k2, k3, k4, k5⟩ := findR_some (x := x) h hc hj
  have hjl : j < os.length := (List.getElem?_eq_some_iff.1 hj).1
  have hgb := of_decide_eq_true k3
  obtain ⟨u1, u2, u3, u4, u5⟩ := packI_un k3
  have e0 : ws.getD x.toNat 0 = packI o.k o.ws.length o.p := getD_of (by rw [show x.toNat = o.i by omega]; exact k2)
  have hob : isObj st x := by rw [← hi]; exact k0
  have hC : writeC ws st x f word = if ¬ (0 ≤ f ∧ f < (o.ws.length : Int)) then 4 else if o.k = 15 then 4 else if f < o.p ∧ leadsB ws st word = false then 5 else 0 := by
    unfold writeC
    rw [if_neg (not_not_intro hob), e0, u3, u4, u5]
  have hW : writeC ws st x f word ≠ 0 → writeW ws st x f word = ws := fun e => by unfold writeW; rw [if_neg e]
  refine JO_fact _ (fun w hs => hR.some (by omega) hs Mmt) ?_
  rintro ⟨b, of, rfl⟩
  repeat' (first | refine Wka ?_ | intro _ | apply And.intro)
  refine JO_val (OV_idx (off := of + j * 5) rfl rfl rfl rfl (by omega) (by omega) (by simp)) rfl rfl ?_
  refine JO_q (OQ_readA (i := j * 5) hR Mmt rfl rfl rfl (by omega) (objs_take hj)) rfl rfl ?_
  by_cases hf : 0 ≤ f ∧ f < (o.ws.length : Int)
  case neg =>
    rw [if_pos hf] at hC
    rw [hW (by rw [hC]; decide), hC]
    repeat' (first | refine Wka ?_ | intro _ | apply And.intro)
    all_goals exact At_ret rfl rfl (.agg rfl rfl rfl Mmt rfl (.tmp rfl .nil)) rfl (is := [2, 2]) rfl ⟨_, cap, os, hc, rfl, rfl⟩
  rw [if_neg (not_not_intro hf)] at hC
  obtain ⟨m, rfl⟩ := Int.eq_ofNat_of_zero_le hf.1
  have hm : m < o.ws.length := by omega
  by_cases hk : o.k = 15
  case pos =>
    rw [if_pos hk] at hC
    rw [hW (by rw [hC]; decide), hC]
    repeat' (first | refine Wka ?_ | intro _ | apply And.intro)
    all_goals exact At_ret rfl rfl (.agg rfl rfl rfl Mmt rfl (.tmp rfl .nil)) rfl (is := [2, 2]) rfl ⟨_, cap, os, hc, rfl, rfl⟩
  rw [if_neg hk] at hC
  have hcase : ((m : Int) < o.p ∧ leadsB ws st word = false) ∨ ((m : Int) < o.p ∧ leadsB ws st word = true) ∨ ¬ (m : Int) < o.p := by
    by_cases h1 : (m : Int) < o.p
    · cases leadsB ws st word
      · exact .inl ⟨h1, rfl⟩
      · exact .inr (.inl ⟨h1, rfl⟩)
    · exact .inr (.inr h1)
  rcases hcase with ⟨h1, h2⟩ | hcase
  · rw [if_pos ⟨h1, h2⟩] at hC
    rw [hW (by rw [hC]; decide), hC]
    repeat' (first | refine Wka ?_ | intro _ | apply And.intro)
    refine JO_l (OL_call [1, 1] rfl rfl rfl (Leads_spec size word h hc h64) rfl) rfl rfl ?_; rintro _ _ ⟨_, ⟨rfl, rfl⟩, rfl⟩
    rw [h2]
    repeat' (first | refine Wka ?_ | intro _ | apply And.intro)
    exact At_ret rfl rfl (.agg rfl rfl rfl Mmt rfl (.tmp rfl .nil)) rfl (is := [1, 1]) rfl ⟨_, cap, os, hc, rfl, rfl⟩
  have hC0 : writeC ws st x m word = 0 := by
    rw [hC]
    refine if_neg ?_
    rintro ⟨h1, h2⟩
    rcases hcase with ⟨_, h3⟩ | h3
    · rw [h2] at h3; cases h3
    · exact h3 h1
  have hW0 : writeW ws st x m word = ws.set (o.i + 1 + m) word := by
    unfold writeW
    rw [if_pos hC0, show x.toNat = o.i by omega, Int.toNat_natCast]
  rw [hC0, hW0]
  clear hC hW hC0 hW0
  rcases hcase with ⟨h1, h2⟩ | h1
  case' inl =>
    repeat' (first | refine Wka ?_ | intro _ | apply And.intro)
    refine JO_l (OL_call [1, 1] rfl rfl rfl (Leads_spec size word h hc h64) rfl) rfl rfl ?_; rintro _ _ ⟨_, ⟨rfl, rfl⟩, rfl⟩
    rw [h2]
    repeat' (first | refine Wka ?_ | intro _ | apply And.intro)
    refine JO_hp (fun H hl => hl.pick (is := [2, 0, 0, 0, 0]) rfl) ?_
  case' inr =>
    repeat' (first | refine Wka ?_ | intro _ | apply And.intro)
  all_goals
    refine JO_l (OL_buildSlice (cs := []) rfl rfl rfl rfl rfl rfl rfl rfl) rfl rfl ?_
    rintro _ _ ⟨bz, rfl, rfl⟩
    repeat' (first | refine Wka ?_ | intro _ | apply And.intro)
    refine JO_l (OL_appendz (m := os.length) rfl rfl rfl rfl rfl (hR.src Mmt) rfl (fun _ h => by cases h) (by omega) (by omega) (by decide)) rfl rfl ?_
    rintro _ _ ⟨a1, c1, rfl, rfl⟩
    repeat' (first | refine Wka ?_ | intro _ | apply And.intro)
    refine JO_l (OL_buildSlice (cs := []) rfl rfl rfl rfl rfl rfl rfl rfl) rfl rfl ?_
    rintro _ _ ⟨by', rfl, rfl⟩
    repeat' (first | refine Wka ?_ | intro _ | apply And.intro)
    refine JO_l (OL_appendz (m := o.ws.length) rfl rfl rfl rfl rfl ((RW.reads (List.mem_of_getElem? hj) ok).src Mmt) rfl (fun _ h => by cases h) (by omega) (by omega) (by decide)) rfl rfl ?_
    rintro _ _ ⟨a3, c3, rfl, rfl⟩
    refine JO_fact _ (fun w hs => rowz_len hs (.head _)) ?_
    rintro ⟨_, hn3, _⟩
    refine JO_fact _ (fun w hs => rowz_len hs (.tail _ (.tail _ (.head _)))) ?_
    rintro ⟨_, hn1, _⟩
    refine JO_hp (fun H hl => hl.pick (is := [0, 1, 2, 3, 3, 3]) rfl) ?_
    have hR1 : Reads (objsZ a1 c1 os) 5 os.length a1 c1 (os.flatMap cellsO) := Reads.rowz objs_len hn1
    have hR3 : Reads (rowz 3 1 a3 o.ws.length c3 (intsV o.ws)) 1 o.ws.length a3 c3 (intsV o.ws) := Reads.rowz (by simp) hn3
    refine JO_fact _ (fun w hs => hR1.some (by omega) hs (.tail _ (.head _))) ?_
    rintro ⟨b1, o1, rfl⟩
    refine JO_fact _ (fun w hs => hR3.some (by omega) hs (.head _)) ?_
    rintro ⟨b3, o3, rfl⟩
    refine JO_val (OV_idx (off := o1 + j * 5) rfl rfl rfl rfl (by omega) (by omega) (by simp)) rfl rfl ?_
    repeat' (first | refine Wka ?_ | intro _ | apply And.intro)
    refine JO_rowz (i := 1) rfl ?_ (fun h => absurd h (by omega))
    have hsl : (o.ws.set m word).length = o.ws.length := by simp
    have hput := put_words (o := o) (x := { o with ws := o.ws.set m word, wa := some ⟨b3, o3, none⟩, wc := c3 }) ⟨rfl, rfl, rfl, hsl⟩ hj
    dsimp only at hput
    rw [hsl] at hput
    refine JO_l0 (OL_storeR (k := j * 5 + 4) rfl rfl rfl rfl rfl rfl P0 hput) rfl ?_
    rintro _ _ rfl
    repeat' (first | refine Wka ?_ | intro _ | apply And.intro)
    refine JO_val (OV_idx (off := o1 + j * 5) rfl rfl rfl rfl (by omega) (by omega) (by simp)) rfl rfl ?_
    repeat' (first | refine Wka ?_ | intro _ | apply And.intro)
    have hjs : (os.set j { o with ws := o.ws.set m word, wa := some ⟨b3, o3, none⟩, wc := c3 })[j]? = some { o with ws := o.ws.set m word, wa := some ⟨b3, o3, none⟩, wc := c3 } := by rw [List.getElem?_set, if_pos rfl, if_pos hjl]
    have hR4 : Reads (row 125 5 (some ⟨b1, o1, none⟩) os.length c1 ((os.set j { o with ws := o.ws.set m word, wa := some ⟨b3, o3, none⟩, wc := c3 }).flatMap cellsO)) 5 os.length (some ⟨b1, o1, none⟩) c1 ((os.set j { o with ws := o.ws.set m word, wa := some ⟨b3, o3, none⟩, wc := c3 }).flatMap cellsO) := Reads.row (by rw [objs_len]; simp) hn1
    refine JO_q (OQ_read (i := j * 5 + 4) (v := .slice (some ⟨b3, o3, none⟩) o.ws.length c3) hR4 (.head _) rfl rfl (by omega) (by rw [objs_get hjs (by omega), ← hsl]; rfl)) rfl rfl ?_
    repeat' (first | refine Wka ?_ | intro _ | apply And.intro)
    refine JO_val (OV_idx (off := o3 + m) rfl rfl rfl rfl (by omega) (by omega) (by simp)) rfl rfl ?_
    refine JO_rowz (i := 1) rfl ?_ (fun h => absurd h (by omega))
    refine JO_l0 (OL_storeR rfl rfl rfl rfl rfl rfl P0 (putL_ints word (by omega))) rfl ?_
    rintro _ _ rfl
    repeat' (first | refine Wka ?_ | intro _ | apply And.intro)
    have e3 : (os.set j { o with ws := o.ws.set m word, wa := some ⟨b3, o3, none⟩, wc := c3 }).length = os.length := by simp
    refine At_ret' rfl rfl (.agg rfl rfl rfl Mmt rfl (.tmp rfl .nil)) rfl (fun H hl => ?_) ⟨some ⟨b1, o1, none⟩, c1, os.set j { o with ws := o.ws.set m word, wa := some ⟨b3, o3, none⟩, wc := c3 }, Ch.write hm hc hj, by rw [e3]; rfl, rfl⟩
    have h1 := hl.pick (is := [2, 4, 2]) rfl
    have h2 := RW.to (news := [{ o with ws := o.ws.set m word, wa := some ⟨b3, o3, none⟩, wc := c3 }]) (os := os) (os' := os.set j { o with ws := o.ws.set m word, wa := some ⟨b3, o3, none⟩, wc := c3 }) (dr := [o]) (perm_set hj) (by
      show Stars (rowz 3 1 (some ⟨b3, o3, none⟩) (o.ws.set m word).length c3 (intsV (o.ws.set m word)) :: _) H
      rw [hsl]
      exact rowz_row h1)
    unfold refL objsZ
    rw [e3]
    exact rowz_row h2.swap
end ops
open Go.Sep
theorem rowO_new {bw k i : Nat} {kd pt : Int} {l : List HP} {H : PH} (h : Stars (blk bw (List.replicate k (.int .i64 0)) 3 :: l) H) : Stars (rowO ⟨i, kd, pt, List.replicate k 0, some ⟨bw, 0, none⟩, k⟩ :: l) H := by
  have h2 := rowz_row (row_full (n := k) (sz := 1) h (by simp))
  have e : List.replicate k (Value.int .i64 0) = intsV (List.replicate k 0) := by simp [intsV]
  rw [e] at h2
  show Stars (rowz 3 1 (some ⟨bw, 0, none⟩) (List.replicate k (0 : Int)).length k (intsV (List.replicate k 0)) :: l) H
  rw [List.length_replicate]
  exact h2
section ops
variable {a : Option Addr} {cap : Nat} {os : List RO} {n T : Nat} {ws : List Int}
set_option maxHeartbeats 8000000 in
theorem refPlace_ok (kd pt : Int) (k : Nat) (hc : Ch ws 0 os T) (hT : T ≤ n) (hn : n ≤ 65536) (hg : goodB kd k pt = true) (hf : T + 1 + k ≤ n) : Does Tryz.prog 24 [refV n a os.length cap, headV kd k pt] (refL a cap os)
    (fun v l => ∃ a' cap' wa wc, v = .tuple #[refV n a' (os ++ [(⟨T, kd, pt, List.replicate k 0, wa, wc⟩ : RO)]).length cap', .int .i64 T, .int .i64 0] ∧ l = refL a' cap' (os ++ [⟨T, kd, pt, List.replicate k 0, wa, wc⟩])) := by
  have hgb := of_decide_eq_true hg
  have hlen := hc.len
  refine Does.of tiok Tryz.func24 (by kernel_rfl) rfl Tryz.ntmps24 rfl ?_
  intro W fr
  refine J_rowzf P0 ?_
  rintro ⟨hl, hnn, hcc⟩
  have hR : Reads (objsZ a cap os) 5 os.length a cap (os.flatMap cellsO) := Reads.rowz hl hnn
  repeat' (first | refine Wka ?_ | intro _ | apply And.intro)
  rename_i b2 b3 b4
  refine JO_l (OL_call [] rfl rfl rfl (refGood_spec kd k pt) rfl) rfl rfl ?_; rintro _ _ ⟨_, ⟨rfl, rfl⟩, rfl⟩
  rw [hg]
  repeat' (first | refine Wka ?_ | intro _ | apply And.intro)
  refine JO_l (OL_call [3, 3] rfl rfl rfl (Top_spec _ hc (by omega)) rfl) rfl rfl ?_; rintro _ _ ⟨_, ⟨rfl, rfl⟩, rfl⟩
  repeat' (first | refine Wka ?_ | intro _ | apply And.intro)
  let H2 : HP := blk b2 [.int .i64 n, .slice a os.length cap] 36
  let H3 : HP := blk b3 [.int .i64 kd, .int .i64 k, .int .i64 pt] 82
  let H4 : HP := blk b4 [.int .i64 0, .slice none 0 0] 36
  let PT : Plan := .l1 11 (.q 12 (.l1 13 .fin))
  let P038 : Plan := .l1 10 PT
  let P0810 : Plan := .l1 3 PT
  let P08 : Plan := .l2 3 P038 10 P0810
  refine J_plan [H2, H3] (fun H hl => hl.pick (is := [4, 3]) rfl) [2, 0, 5, 2, 0, 5, 0, 5, 2, 0, 2, 2, 0, 6]
    (.q 1 (.q 2 (.q 4 (.q 5 (.q 6 (.q 7 (.l2 0 (.l2 3 (.l1 8 (.q 9 P038)) 8 (.q 9 P08)) 8 (.q 9 (.l2 0 P08 10 (.l1 0 P0810)))))))))) (by kernel_rfl) (by kernel_rfl) ?_
  repeat' (first | refine Wkf ?_ | intro _ | apply And.intro)
  let OC : Nat → List Value := fun bw => [.int .i64 T, .int .i64 kd, .int .i64 k, .int .i64 pt, .slice (some ⟨bw, 0, none⟩) k k]
  let WB : Nat → HP := fun bw => blk bw (List.replicate k (.int .i64 0)) 3
  refine JF_cut (α := Option Addr × Nat × Nat × Nat) PT
    (fun z => [(2, ptr b2 0), (3, ptr b3 0), (4, ptr b4 0), (7, .int .i64 T), (26, .slice z.1 os.length z.2.1), (33, .slice (some ⟨z.2.2.1, 0, none⟩) 1 1)])
    (fun z => [objsZ z.1 z.2.1 os, blk z.2.2.1 (OC z.2.2.2) 125, WB z.2.2.2, H2, H3, H4, RW os]) (fun tail => ?_) ?_
  · refine JF_cut (α := Option Addr × Nat × Nat) P038
      (fun z => [(2, ptr b2 0), (3, ptr b3 0), (4, ptr b4 0), (7, .int .i64 T), (26, .slice z.1 os.length z.2.1), (32, .agg (OC z.2.2).toArray)])
      (fun z => [objsZ z.1 z.2.1 os, WB z.2.2, H2, H3, H4, RW os]) (fun s038 => ?_) ?_
    · refine JF_cut (α := Nat × Nat × Nat) P0810
        (fun z => [(2, ptr b2 0), (3, ptr b3 0), (4, ptr b4 0), (7, .int .i64 T), (23, .slice (some ⟨z.1, 0, none⟩) 0 0), (25, .slice a os.length cap), (33, .slice (some ⟨z.2.1, 0, none⟩) 1 1)])
        (fun z => [blk z.1 [] 125, blk z.2.1 (OC z.2.2) 125, WB z.2.2, H2, H3, H4, objsZ a cap os, RW os]) (fun s0810 => ?_) ?_
      · refine JF_cut (α := Nat × Nat) P08
          (fun z => [(2, ptr b2 0), (3, ptr b3 0), (4, ptr b4 0), (7, .int .i64 T), (23, .slice (some ⟨z.1, 0, none⟩) 0 0), (25, .slice a os.length cap), (32, .agg (OC z.2).toArray)])
          (fun z => [blk z.1 [] 125, WB z.2, H2, H3, H4, objsZ a cap os, RW os]) (fun s08 => ?_) ?_
        · refine JF_l2 ?_ ?_
          · refine JFO_l rfl (OL_buildSlice (cs := []) rfl rfl rfl rfl rfl rfl rfl rfl) rfl rfl (.inr ?_) ?_
            · rintro _ _ ⟨_, rfl, rfl⟩ H hl
              exact hl.pick (is := [5, 4]) rfl
            rintro _ _ ⟨bz, rfl, rfl⟩ _
            refine JF_l2 ?_ ?_
            · refine JFO_l rfl (OL_appendz (m := os.length) rfl rfl rfl rfl rfl (hR.src Mmt) rfl (fun _ h => by cases h) (by omega) (by omega) (by decide)) rfl rfl (.inr ?_) ?_
              · rintro _ _ ⟨_, _, rfl, rfl⟩ H hl
                exact hl.pick (is := [6, 5]) rfl
              rintro _ _ ⟨a1, c1, rfl, rfl⟩ _
              refine JF_l1 (JFO_l rfl (OL_makeN rfl rfl rfl rfl (by omega) (by omega)) rfl rfl (.inr ?_) ?_)
              · rintro _ _ ⟨_, rfl, rfl⟩ H hl
                exact hl.pick (is := [7, 6]) rfl
              rintro _ _ ⟨bw, rfl, rfl⟩ _
              repeat' (first | refine Wkf ?_ | intro _ | apply And.intro)
              exact JF_to Sgt (fun H hl => hl.pick (is := [1, 0, 5, 4, 3, 2]) rfl) (fun H hl => hl.pick (is := [2, 2]) rfl) (s038 (a1, c1, bw))
            · refine JFO_l rfl (OL_makeN rfl rfl rfl rfl (by omega) (by omega)) rfl rfl (.inr ?_) ?_
              · rintro _ _ ⟨_, rfl, rfl⟩ H hl
                exact hl.pick (is := [6, 5]) rfl
              rintro _ _ ⟨bw, rfl, rfl⟩ _
              repeat' (first | refine Wkf ?_ | intro _ | apply And.intro)
              exact JF_to Sgt (fun H hl => hl.pick (is := [1, 0, 4, 3, 2, 0, 0]) rfl) (fun H hl => hl.pick (is := [2, 2]) rfl) (s08 (bz, bw))
          · refine JFO_l rfl (OL_makeN rfl rfl rfl rfl (by omega) (by omega)) rfl rfl (.inr ?_) ?_
            · rintro _ _ ⟨_, rfl, rfl⟩ H hl
              exact hl.pick (is := [5, 4]) rfl
            rintro _ _ ⟨bw, rfl, rfl⟩ _
            repeat' (first | refine Wkf ?_ | intro _ | apply And.intro)
            refine JF_l2 ?_ ?_
            · refine JFO_l rfl (OL_buildSlice (cs := []) rfl rfl rfl rfl rfl rfl rfl rfl) rfl rfl (.inr ?_) ?_
              · rintro _ _ ⟨_, rfl, rfl⟩ H hl
                exact hl.pick (is := [6, 5]) rfl
              rintro _ _ ⟨bz, rfl, rfl⟩ _
              exact JF_to Sgt (fun H hl => hl.pick (is := [0, 0, 4, 3, 2, 0, 0]) rfl) (fun H hl => hl.pick (is := [2, 2]) rfl) (s08 (bz, bw))
            · refine JFO_l rfl (OL_buildSlice (cs := OC bw) rfl rfl rfl rfl rfl rfl rfl rfl) rfl rfl (.inr ?_) ?_
              · rintro _ _ ⟨_, rfl, rfl⟩ H hl
                exact hl.pick (is := [6, 5]) rfl
              rintro _ _ ⟨bb, rfl, rfl⟩ _
              refine JF_l1 (JFO_l rfl (OL_buildSlice (cs := []) rfl rfl rfl rfl rfl rfl rfl rfl) rfl rfl (.inr ?_) ?_)
              · rintro _ _ ⟨_, rfl, rfl⟩ H hl
                exact hl.pick (is := [7, 6]) rfl
              rintro _ _ ⟨bz, rfl, rfl⟩ _
              exact JF_to Sgt (fun H hl => hl.pick (is := [0, 0, 0, 4, 3, 2, 0, 0]) rfl) (fun H hl => hl.pick (is := [3, 3]) rfl) (s0810 (bz, bb, bw))
        · rintro ⟨bz, bw⟩
          refine JF_l2 ?_ ?_
          · refine JFO_l rfl (OL_appendz (m := os.length) rfl rfl rfl rfl rfl (hR.src Mmt) rfl (fun _ h => by cases h) (by omega) (by omega) (by decide)) rfl rfl (.inr ?_) ?_
            · rintro _ _ ⟨_, _, rfl, rfl⟩ H hl
              exact hl.pick (is := [3, 3]) rfl
            rintro _ _ ⟨a1, c1, rfl, rfl⟩ _
            exact JF_to Sgt (fun H hl => hl.pick (is := [0, 1, 1, 1, 1, 2]) rfl) (fun H hl => hl.pick (is := [2, 2]) rfl) (s038 (a1, c1, bw))
          · refine JFO_l rfl (OL_buildSlice (cs := OC bw) rfl rfl rfl rfl rfl rfl rfl rfl) rfl rfl (.inr ?_) ?_
            · rintro _ _ ⟨_, rfl, rfl⟩ H hl
              exact hl.pick (is := [3, 3]) rfl
            rintro _ _ ⟨bb, rfl, rfl⟩ _
            exact JF_to Sgt (fun H hl => hl.pick (is := [1, 0, 0, 0, 0, 0, 0, 0]) rfl) (fun H hl => hl.pick (is := [3, 3]) rfl) (s0810 (bz, bb, bw))
      · rintro ⟨bz, bb, bw⟩
        refine JF_l1 (JFO_l rfl (OL_appendz (m := os.length) rfl rfl rfl rfl rfl (hR.src Mmt) rfl (fun _ h => by cases h) (by omega) (by omega) (by decide)) rfl rfl (.inr ?_) ?_)
        · rintro _ _ ⟨_, _, rfl, rfl⟩ H hl
          exact hl.pick (is := [4, 4]) rfl
        rintro _ _ ⟨a1, c1, rfl, rfl⟩ _
        exact JF_to Sgt (fun H hl => hl.pick (is := [0, 1, 1, 1, 1, 1, 2]) rfl) (fun H hl => hl.pick (is := [3, 3]) rfl) (tail (a1, c1, bb, bw))
    · rintro ⟨a1, c1, bw⟩
      refine JF_l1 (JFO_l rfl (OL_buildSlice (cs := OC bw) rfl rfl rfl rfl rfl rfl rfl rfl) rfl rfl (.inr ?_) ?_)
      · rintro _ _ ⟨_, rfl, rfl⟩ H hl
        exact hl.pick (is := [3, 3]) rfl
      rintro _ _ ⟨bb, rfl, rfl⟩ _
      exact JF_to Sgt (fun H hl => hl.pick (is := [1, 0, 0, 0, 0, 0, 0]) rfl) (fun H hl => hl.pick (is := [3, 3]) rfl) (tail (a1, c1, bb, bw))
  · rintro ⟨a1, c1, bb, bw⟩
    refine JF_l1 (JFO_l rfl (OL_appendr (m := 1) rfl rfl rfl rfl rfl P0 ((Reads.blk rfl).src (.tail _ (.head _))) rfl rfl (fun _ h => by cases h) (by omega) (by omega) (by decide)) rfl rfl (.inr ?_) ?_)
    · rintro _ _ ⟨_, _, rfl, rfl⟩ H hl
      exact hl.pick (is := [3, 3]) rfl
    rintro _ _ ⟨a2, c2, rfl, rfl⟩ _
    repeat' (first | refine Wkf ?_ | intro _ | apply And.intro)
    refine JF_l1 (JFO_l0 rfl (OL_store rfl rfl rfl rfl rfl rfl (by first | exact P0 | exact P1 | exact P2 | exact P3 | exact P4 | exact P5 | exact P6 | exact P7) (by rfl)) rfl (.inl rfl) ?_)
    rintro _ _ rfl _
    repeat' (first | refine Wkf ?_ | intro _ | apply And.intro)
    repeat' (first | refine Wka ?_ | intro _ | apply And.intro)
    have e3 : (os ++ [(⟨T, kd, pt, List.replicate k 0, some ⟨bw, 0, none⟩, k⟩ : RO)]).length = os.length + 1 := by simp
    have e2 : (os ++ [(⟨T, kd, pt, List.replicate k 0, some ⟨bw, 0, none⟩, k⟩ : RO)]).flatMap cellsO = os.flatMap cellsO ++ OC bw := by simp [OC]
    refine At_ret' rfl rfl (.agg rfl rfl rfl Mmt rfl (.tmp rfl (.tmp rfl .nil))) rfl (fun H hl => ?_) ⟨a2, c2, some ⟨bw, 0, none⟩, k, ?_, rfl⟩
    · have h1 := hl.pick (is := [4, 5, 2]) rfl
      have h2 := rowO_new (i := T) (kd := kd) (pt := pt) h1
      have h3 := RW.to (news := [⟨T, kd, pt, List.replicate k 0, some ⟨bw, 0, none⟩, k⟩]) (os := os) (os' := os ++ [⟨T, kd, pt, List.replicate k 0, some ⟨bw, 0, none⟩, k⟩]) (dr := []) (by rw [List.append_nil]; exact List.perm_append_comm) h2
      unfold refL objsZ
      rw [e2, e3]
      exact h3.swap
    · rw [e3]; rfl
end ops
end Go.Proofs.YtfmkjbmogfhpbaaGreatDoor
namespace Go.Sep
theorem flat_takeN {α : Type} {f : α → List Value} {sz : Nat} (hf : ∀ y, (f y).length = sz) : ∀ {ys : List α} {j : Nat}, (ys.flatMap f).take (j * sz) = (ys.take j).flatMap f
  | [], j => by simp
  | y :: r, 0 => by simp
  | y :: r, j + 1 => by
    rw [List.take_succ_cons, List.flatMap_cons, List.flatMap_cons, ← flat_takeN hf (ys := r) (j := j), Nat.add_mul, Nat.one_mul, ← hf y, Nat.add_comm, List.take_length_add_append]
end Go.Sep
namespace Go.Proofs.YtfmkjbmogfhpbaaGreatDoor
open Go.Sep
theorem Ch.put {ws ws' : List Int} {os : List RO} {j T : Nat} {o : RO} {mid : List RO} (hc : Ch ws 0 os T) (hj : os[j]? = some o) (hk : ∀ q : Nat, (q < o.i ∨ o.i + 1 + o.ws.length ≤ q) → ws'[q]? = ws[q]?) (hm : Ch ws' o.i mid (o.i + 1 + o.ws.length)) : Ch ws' 0 (os.take j ++ mid ++ os.drop (j + 1)) T := by
  obtain ⟨h1, h2⟩ := hc.at hj
  refine Ch.app.2 ⟨_, Ch.app.2 ⟨_, h1.keep fun q _ b => hk q (.inl b), hm⟩, h2.2.2.2.2.keep fun q b _ => hk q (.inr b)⟩
theorem zrep {k j : Nat} (h : j < k) : (List.replicate k (0 : Int))[j]? = some 0 := by rw [List.getElem?_replicate, if_pos h]
section ops
variable {a : Option Addr} {cap : Nat} {os : List RO} {n T : Nat} {ws : List Int} {st : List Bool}
end ops
open Go.Sep
def fewB (g : GG) : Bool := (g.ns.all fun y => decide (y.es.length ≤ 10)) && (decide (g.ns.length ≤ 14) && decide (g.rs.length ≤ 14))
theorem node_take {ns : List ND} {i : Nat} {y : ND} (h : ns[i]? = some y) : takeL (ns.flatMap cellsN) (i * 3) 3 = some (cellsN y) := flat_take (f := cellsN) (fun _ _ => rfl) h
theorem few_all {ns : List ND} (hj : ∀ j y, j < ns.length → ns[j]? = some y → y.es.length ≤ 10) : (ns.all fun y => decide (y.es.length ≤ 10)) = true := by
  rw [List.all_eq_true]
  intro y hy
  obtain ⟨j, hy⟩ := List.getElem?_of_mem hy
  exact decide_eq_true (hj j y (List.getElem?_eq_some_iff.1 hy).1 hy)
set_option maxHeartbeats 4000000 in
theorem Few_spec {R : HP} {g : GG} (h : GOk R g) : Does Tryz.prog 6 [gV g] [R] (fun v l => v = .bool (fewB g) ∧ l = [R]) := by
  obtain ⟨ns, na, nc, rs, ra, rc⟩ := g
  obtain ⟨hnd, hrn, hnl, hrr, hrb, hrl⟩ := h
  dsimp only at hnd hrn hnl hrr hrb hrl
  refine Does.of tiok Tryz.func6 (by kernel_rfl) rfl Tryz.ntmps6 rfl ?_
  intro W fr
  repeat' (first | refine Wka ?_ | intro _ | apply And.intro)
  rename_i bg
  refine J_loop (α := Nat) (fun i => i ≤ ns.length ∧ ∀ j y, j < i → ns[j]? = some y → y.es.length ≤ 10)
    (fun i => [(1, ptr bg 0), (2, .bool false), (6, .slice na ns.length nc), (7, .int .i64 ns.length), (8, .int .i64 i)])
    (fun i => [blk bg [.slice na ns.length nc, .slice ra rs.length rc] 25, R]) (fun i => ns.length - i) 0 ⟨Nat.zero_le _, fun j y hj => absurd hj (Nat.not_lt_zero _)⟩ Sgt (fun H hl => hl) ?_
  rintro i ⟨hi, hj⟩
  repeat' (first | refine Wka ?_ | intro _ | apply And.intro)
  · rename_i hlt
    obtain ⟨y, hy⟩ : ∃ y, ns[i]? = some y := ⟨ns[i]'(by omega), List.getElem?_eq_getElem _⟩
    refine JO_fact _ (fun w hs => hrn.some (by omega) hs Mmt) ?_
    rintro ⟨b, o, rfl⟩
    refine JO_val (OV_idx (off := o + i * 3) rfl rfl rfl rfl (by omega) (by omega) (by simp)) rfl rfl ?_
    refine JO_q (OQ_readA hrn Mmt rfl rfl rfl (by omega) (node_take hy)) rfl rfl ?_
    repeat' (first | refine Wka ?_ | intro _ | apply And.intro)
    · rename_i h10
      refine At_ret rfl rfl (.tmp rfl .nil) rfl (is := [2]) rfl ⟨?_, rfl⟩
      unfold fewB
      rw [show (ns.all fun y => decide (y.es.length ≤ 10)) = false from by
        rw [List.all_eq_false]
        exact ⟨y, List.mem_of_getElem? hy, by simp; omega⟩]
      rfl
    · rename_i h10
      refine At_round (i + 1) (by show ns.length - (i + 1) < ns.length - i; omega) ⟨by omega, fun j z hj2 hz => ?_⟩ Sgt (fun H hl => hl.tail)
      by_cases e : j = i
      · subst e; rw [hy] at hz; injection hz with hz; subst hz; omega
      · exact hj j z (by omega) hz
  · rename_i _ h1
    obtain rfl : i = ns.length := by omega
    refine At_ret rfl rfl (.tmp rfl .nil) rfl (is := [1]) rfl ⟨congrArg Value.bool ?_, rfl⟩
    have hA := few_all hj
    unfold fewB
    dsimp only
    rw [hA, decide_eq_true (show ns.length ≤ 14 by omega), Bool.true_and, Bool.true_and]
    exact decide_eq_decide.2 (by omega)
  · rename_i _ h1
    obtain rfl : i = ns.length := by omega
    refine At_ret rfl rfl (.tmp rfl .nil) rfl (is := [1]) rfl ⟨congrArg Value.bool ?_, rfl⟩
    have hA := few_all hj
    unfold fewB
    dsimp only
    rw [decide_eq_false (show ¬ ns.length ≤ 14 by omega), Bool.false_and, Bool.and_false]
def plcI (at_ : List Int) (z : Int) : Int := if z % ((at_.length : Int) + 1) = at_.length then 0 else 1 + at_.getD (z % ((at_.length : Int) + 1)).toNat 0
theorem place11_spec {R : HP} {a : Option Addr} {cap : Nat} {at_ : List Int} (z : Int) (h0 : 0 ≤ z) (h1 : z ≤ 255) (hl : at_.length ≤ 65536) (hb : ∀ q ∈ at_, 0 ≤ q ∧ q ≤ 65536) (hR : Reads R 1 at_.length a cap (intsV at_)) :
    Does Tryz.prog 26 [.slice a at_.length cap, .int .u8 z] [R] (fun v l => v = .int .i64 (plcI at_ z) ∧ l = [R]) := by
  refine Does.of tiok Tryz.func26 (by kernel_rfl) rfl Tryz.ntmps26 rfl ?_
  intro W fr
  have m0 : 0 ≤ z % ((at_.length : Int) + 1) := Int.emod_nonneg _ (by omega)
  have m1 : z % ((at_.length : Int) + 1) < (at_.length : Int) + 1 := Int.emod_lt_of_pos _ (by omega)
  unfold plcI
  by_cases he : z % ((at_.length : Int) + 1) = at_.length
  · rw [if_pos he]
    repeat' (first | refine Wka ?_ | intro _ | apply And.intro)
    exact At_ret rfl rfl (.tmp rfl .nil) rfl (is := [0]) rfl ⟨rfl, rfl⟩
  · rw [if_neg he]
    repeat' (first | refine Wka ?_ | intro _ | apply And.intro)
    obtain ⟨k, hk⟩ := Int.eq_ofNat_of_zero_le m0
    rw [hk] at he m1 ⊢
    obtain ⟨q, hq⟩ : ∃ q, at_[k]? = some q := ⟨at_[k]'(by omega), List.getElem?_eq_getElem _⟩
    have hqb := hb q (List.mem_of_getElem? hq)
    refine JO_fact _ (fun w hs => hR.some (by omega) hs Mmt) ?_
    rintro ⟨b, o, rfl⟩
    refine JO_val (OV_idx (off := o + k) rfl rfl rfl rfl (by omega) (by omega) (by simp)) rfl rfl ?_
    refine JO_q (OQ_read (v := .int .i64 q) hR Mmt rfl rfl (by omega) (by simp [intsV, hq])) rfl rfl ?_
    repeat' (first | refine Wka ?_ | intro _ | apply And.intro)
    exact At_ret rfl rfl (.tmp rfl .nil) rfl (is := [0]) rfl ⟨by rw [Int.toNat_natCast, List.getD_eq_getElem?_getD, hq]; rfl, rfl⟩
open Go.Sep
abbrev hdO (o : RO) : Int × Nat × Int := (o.k, o.ws.length, o.p)
theorem Ch.hds {ws ws' : List Int} : ∀ {os os' : List RO} {i T : Nat}, Ch ws i os T → Ch ws' i os' T → (∀ o ∈ os, ws'[o.i]? = ws[o.i]?) → os'.map hdO = os.map hdO
  | [], [], _, _, _, _, _ => rfl
  | [], o' :: r', i, T, h, h', _ => by have := h'.2.2.2.2.le; have : i = T := h; omega
  | o :: r, [], i, T, h, h', _ => by have := h.2.2.2.2.le; have : i = T := h'; omega
  | o :: r, o' :: r', i, T, ⟨h1, h2, h3, h4, h5⟩, ⟨k1, k2, k3, k4, k5⟩, e => by
    have e1 := e o (.head _)
    rw [h1, h3, k3] at e1
    injection e1 with e1
    obtain ⟨_, _, a1, a2, a3⟩ := packI_un h2
    obtain ⟨_, _, b1, b2, b3⟩ := packI_un k2
    rw [e1] at b1 b2 b3
    rw [a1] at b1
    rw [a2] at b2
    rw [a3] at b3
    have hl : o'.ws.length = o.ws.length := by omega
    rw [hl] at k5
    rw [List.map_cons, List.map_cons, Ch.hds h5 k5 fun x hx => e x (.tail _ hx)]
    unfold hdO
    rw [hl, ← b1, ← b3]
theorem writeW_hd {n T : Nat} {ws : List Int} {st : List Bool} (h : HT n T ws st) {q : Nat} (hq : st[q]? = some true) (x f v : Int) : (writeW ws st x f v)[q]? = ws[q]? := by
  unfold writeW
  by_cases hc : writeC ws st x f v = 0
  · rw [if_pos hc]
    unfold writeC at hc
    by_cases hx : isObj st x
    · rw [if_neg (not_not_intro hx)] at hc
      by_cases hf : 0 ≤ f ∧ f < unN (ws.getD x.toNat 0)
      · obtain ⟨i, rfl⟩ := Int.eq_ofNat_of_zero_le hx.1
        obtain ⟨m, rfl⟩ := Int.eq_ofNat_of_zero_le hf.1
        obtain ⟨w, a1, a2, a3, a4, a5⟩ := h.obj i (by have := hx.2; rwa [Int.toNat_natCast] at this)
        rw [Int.toNat_natCast, getD_of a1] at hf
        rw [Int.toNat_natCast, Int.toNat_natCast]
        refine List.getElem?_set_ne fun e => ?_
        exact a5 q (by omega) (by omega) hq
      · rw [if_pos hf] at hc; cases hc
    · rw [if_pos hx] at hc; cases hc
  · rw [if_neg hc]
structure BInv (n T : Nat) (ws : List Int) (st : List Bool) (os : List RO) (hs : List (Int × Nat × Int)) : Prop where
  ht : HT n T ws st
  ch : Ch ws 0 os T
  hd : os.map hdO = hs
  ro : RefsOk ws st
theorem BInv.write {n T : Nat} {ws : List Int} {st : List Bool} {os os' : List RO} {hs : List (Int × Nat × Int)} (h : BInv n T ws st os hs) {x f v : Int} (h64 : In64 v) (hc : Ch (writeW ws st x f v) 0 os' T) : BInv n T (writeW ws st x f v) st os' hs :=
  ⟨h.ht.writeW x f v h64, hc, (h.ch.hds hc fun o ho => writeW_hd h.ht (Ch.start h.ht h.ch (h.ht.zero.imp (fun e => e.symm) id) o ho) x f v).trans h.hd, RefsOk.writeW h.ht h.ro x f v⟩
theorem BInv.place {n T : Nat} {ws : List Int} {st : List Bool} {os : List RO} {hs : List (Int × Nat × Int)} (h : BInv n T ws st os hs) {kd pt : Int} {k : Nat} (hg : goodB kd k pt = true) (hf : T + 1 + k ≤ n) (wa : Option Addr) (wc : Nat) :
    BInv n (T + 1 + k) (zeroAt (ws.set T (packI kd k pt)) (T + 1) k) (st.set T true) (os ++ [⟨T, kd, pt, List.replicate k 0, wa, wc⟩]) (hs ++ [(kd, k, pt)]) := by
  have hwl := h.ht.wl
  refine ⟨h.ht.place hg hf, ?_, ?_, RefsOk.place h.ht h.ro hg hf⟩
  · have hb : T + 1 + k ≤ ws.length := by omega
    have h1 := (h.ch.keep (ws' := zeroAt (ws.set T (packI kd k pt)) (T + 1) k) fun q _ b => lay_out hb (.inl b)).snoc (o := ⟨T, kd, pt, List.replicate k 0, wa, wc⟩) rfl (by dsimp only; rw [List.length_replicate]; exact hg) (by dsimp only; rw [List.length_replicate]; exact lay_at hb) (fun q hq => by
      dsimp only at hq ⊢
      rw [List.length_replicate] at hq
      exact (zeroAt_in (by simp; omega) (by omega) (by omega)).trans (zrep hq).symm)
    dsimp only at h1
    rw [List.length_replicate] at h1
    exact h1
  · rw [List.map_append, h.hd, List.map_cons, List.map_nil]
    unfold hdO
    rw [List.length_replicate]
structure LG where
  i : Nat
  T : Nat
  at_ : List Int
  hs : List (Int × Nat × Int)
def fillG (s : LG) (y : ND) : LG := if s.i % 3 = 2 then ⟨s.i, s.T + 1 + (y.k % 2).toNat, s.at_, s.hs ++ [(15, (y.k % 2).toNat, 0)]⟩ else s
def lenG (y : ND) : Nat := y.es.length + (y.m % 4).toNat
def nodeG (s : LG) (y : ND) : LG := ⟨s.i + 1, s.T + 1 + lenG y, s.at_ ++ [(s.T : Int)], s.hs ++ [(y.k % 15, lenG y, (y.es.length : Int))]⟩
def stepG (s : LG) (y : ND) : LG := nodeG (fillG s y) y
def layG (ns : List ND) : LG := ns.foldl stepG ⟨0, 0, [], []⟩
def needG (ns : List ND) : Nat := (ns.map fun y => 3 + lenG y).sum
theorem take_next {α : Type} {ns : List α} {i : Nat} {y : α} (h : ns[i]? = some y) : ns.take (i + 1) = ns.take i ++ [y] := by rw [List.take_add_one, h]; rfl
theorem layG_next {ns : List ND} {i : Nat} {y : ND} (h : ns[i]? = some y) : layG (ns.take (i + 1)) = stepG (layG (ns.take i)) y := by
  unfold layG
  rw [take_next h, List.foldl_append]
  rfl
theorem needG_next {ns : List ND} {i : Nat} {y : ND} (h : ns[i]? = some y) : needG (ns.take (i + 1)) = needG (ns.take i) + (3 + lenG y) := by
  unfold needG
  rw [take_next h, List.map_append, List.sum_append]
  simp
theorem needG_le {ns : List ND} : ∀ {i : Nat}, needG (ns.take i) ≤ needG ns := by
  intro i
  unfold needG
  conv => rhs; rw [← List.take_append_drop i ns]
  rw [List.map_append, List.sum_append]
  exact Nat.le_add_right _ _
theorem layG_i {ns : List ND} : ∀ {i : Nat}, i ≤ ns.length → (layG (ns.take i)).i = i ∧ (layG (ns.take i)).at_.length = i ∧ (layG (ns.take i)).T ≤ needG (ns.take i) ∧ ∀ q ∈ (layG (ns.take i)).at_, 0 ≤ q ∧ q ≤ (layG (ns.take i)).T
  | 0, _ => ⟨rfl, rfl, Nat.le_refl _, fun q hq => by cases hq⟩
  | i + 1, h => by
    obtain ⟨h1, h2, h3, h4⟩ := layG_i (ns := ns) (i := i) (by omega)
    obtain ⟨y, hy⟩ : ∃ y, ns[i]? = some y := ⟨ns[i]'(by omega), List.getElem?_eq_getElem _⟩
    rw [layG_next hy, needG_next hy]
    generalize layG (ns.take i) = s at h1 h2 h3 h4 ⊢
    unfold stepG nodeG fillG
    by_cases h5 : s.i % 3 = 2
    · rw [if_pos h5]
      refine ⟨by dsimp only; omega, by simp [h2], by dsimp only; omega, fun q hq => ?_⟩
      dsimp only at hq ⊢
      rcases List.mem_append.1 hq with hq | hq
      · have := h4 q hq; omega
      · have := List.mem_singleton.1 hq; omega
    · rw [if_neg h5]
      refine ⟨by dsimp only; omega, by simp [h2], by dsimp only; omega, fun q hq => ?_⟩
      dsimp only at hq ⊢
      rcases List.mem_append.1 hq with hq | hq
      · have := h4 q hq; omega
      · have := List.mem_singleton.1 hq; omega
theorem few_need {R : HP} {g : GG} (h : GOk R g) (hf : fewB g = true) : g.ns.length ≤ 14 ∧ g.rs.length ≤ 14 ∧ (∀ y ∈ g.ns, y.es.length ≤ 10) ∧ needG g.ns ≤ 224 := by
  unfold fewB at hf
  rw [Bool.and_eq_true, Bool.and_eq_true] at hf
  obtain ⟨h1, h2, h3⟩ := hf
  have h2 := of_decide_eq_true h2
  have h3 := of_decide_eq_true h3
  have h1' : ∀ y ∈ g.ns, y.es.length ≤ 10 := fun y hy => of_decide_eq_true (List.all_eq_true.1 h1 y hy)
  refine ⟨h2, h3, h1', ?_⟩
  have : ∀ l : List ND, (∀ y ∈ l, y.es.length ≤ 10) → needG l ≤ 16 * l.length := by
    intro l
    induction l with
    | nil => intro _; exact Nat.le_refl _
    | cons y l ih =>
      intro hl
      have a := ih fun z hz => hl z (.tail _ hz)
      have b := hl y (.head _)
      unfold needG lenG at a ⊢
      simp only [List.map_cons, List.sum_cons, List.length_cons]
      omega
  have := this g.ns h1'
  omega
open Go.Sep
theorem plcI_in {at_ : List Int} {z : Int} (hb : ∀ q ∈ at_, 0 ≤ q ∧ q ≤ 65536) : 0 ≤ plcI at_ z ∧ plcI at_ z ≤ 65537 := by
  unfold plcI
  split
  · omega
  · generalize (z % ((at_.length : Int) + 1)).toNat = k
    rw [List.getD_eq_getElem?_getD]
    cases h : at_[k]? with
    | none => exact ⟨by decide, by decide⟩
    | some q =>
      have := hb q (List.mem_of_getElem? h)
      rw [Option.getD_some]
      omega
set_option maxHeartbeats 32000000 in
theorem Build_spec {R : HP} {g : GG} (h : GOk R g) (hf : fewB g = true) (room : Nat) (hroom : room ≤ 1000) : Does Tryz.prog 7 [gV g, .int .i64 room] [R]
    (fun v l => ∃ p bw bs n T ws st a cap os ra rc, BInv n T ws st os (layG g.ns).hs ∧ n = 1 + room + needG g.ns ∧ T = (layG g.ns).T ∧
      v = .tuple #[ptr p 0, .slice ra g.rs.length rc, refV n a os.length cap] ∧ l = heapL p bw bs n ws T st ++ refL a cap os ++ [rowz 3 1 ra g.rs.length rc (intsV (g.rs.map (plcI (layG g.ns).at_))), R]) := by
  obtain ⟨hn14, hr14, he10, hnd224⟩ := few_need h hf
  obtain ⟨ns, na, nc, rs, ra0, rc0⟩ := g
  obtain ⟨hnd, hrn, hnl, hrr, hrb, hrl⟩ := h
  dsimp only at hnd hrn hnl hrr hrb hrl hn14 hr14 he10 hnd224 ⊢
  refine Does.of tiok Tryz.func7 (by kernel_rfl) rfl Tryz.ntmps7 rfl ?_
  intro W fr
  repeat' (first | refine Wka ?_ | intro _ | apply And.intro)
  rename_i bg b6
  rw [show (1 : Int) + (room : Int) = ((1 + room + needG (ns.take 0) : Nat) : Int) by show _ = ((1 + room + 0 : Nat) : Int); omega]
  refine J_loop (α := Nat) (fun i => i ≤ ns.length)
    (fun i => [(2, ptr bg 0), (4, .pointer none), (5, .slice none 0 0), (6, ptr b6 0), (7, .int .i64 ((1 + room + needG (ns.take i) : Nat) : Int)), (31, .slice na ns.length nc), (32, .int .i64 ns.length), (33, .int .i64 i)])
    (fun i => [blk b6 [.int .i64 0, .slice none 0 0] 36, blk bg [.slice na ns.length nc, .slice ra0 rs.length rc0] 25, R]) (fun i => ns.length - i) 0 (Nat.zero_le _) Sgt (fun H hl => hl) ?_
  intro i hi
  have hni := Nat.le_trans (needG_le (ns := ns) (i := i)) hnd224
  repeat' (first | refine Wkb ?_ | intro _ | apply And.intro)
  · rename_i hlt
    refine J_block ?_
    obtain ⟨y, hy⟩ : ∃ y, ns[i]? = some y := ⟨ns[i]'(by omega), List.getElem?_eq_getElem _⟩
    have hyo := hnd y (List.mem_of_getElem? hy)
    have hye := he10 y (List.mem_of_getElem? hy)
    have hk0 := hyo.k0
    have hk1 := hyo.k1
    have hm0 := hyo.m0
    have hm1 := hyo.m1
    have hnx := needG_next hy
    unfold lenG at hnx
    repeat' (first | refine Wka ?_ | intro _ | apply And.intro)
    refine JO_fact _ (fun w hs => hrn.some (by omega) hs Mmt) ?_
    rintro ⟨b, o, rfl⟩
    refine JO_val (OV_idx (off := o + i * 3) rfl rfl rfl rfl (by omega) (by omega) (by simp)) rfl rfl ?_
    refine JO_q (OQ_readA hrn Mmt rfl rfl rfl (by omega) (node_take hy)) rfl rfl ?_
    repeat' (first | refine Wka ?_ | intro _ | apply And.intro)
    rw [show ((1 + room + needG (ns.take i) : Nat) : Int) + (3 + (y.es.length : Int) + y.m % 4) = ((1 + room + needG (ns.take (i + 1)) : Nat) : Int) by rw [hnx]; omega]
    exact At_round (i + 1) (by show ns.length - (i + 1) < ns.length - i; omega) (by show i + 1 ≤ ns.length; omega) Sgt (fun H hl => hl.tail)
  obtain rfl : i = ns.length := by omega
  rw [List.take_length]
  repeat' (first | refine Wka ?_ | intro _ | apply And.intro)
  obtain ⟨n, hn⟩ : ∃ n, n = 1 + room + needG ns := ⟨_, rfl⟩
  rw [← hn]
  have hN : Does Tryz.prog 22 [.int .i64 n] [] _ := heapNew_ok n (by omega) (by omega)
  refine JO_l (OL_call [] rfl rfl rfl (hN) rfl) rfl rfl ?_; rintro _ _ ⟨_, ⟨p, bw, bs, rfl, rfl⟩, rfl⟩
  have hB0 : BInv n 0 (List.replicate n 0) (List.replicate n false) [] [] := ⟨HT.new (by omega), rfl, rfl, RefsOk.new⟩
  generalize List.replicate n (0 : Int) = ws0 at hB0
  generalize List.replicate n false = st0 at hB0
  clear hN
  repeat' (first | refine Wka ?_ | intro _ | apply And.intro)
  rename_i b12 _
  refine J_loop (α := Nat × List Int × List Bool × Option Addr × Nat × List RO × Option Addr × Nat)
    (fun x => x.1 ≤ ns.length ∧ BInv n (layG (ns.take x.1)).T x.2.1 x.2.2.1 x.2.2.2.2.2.1 (layG (ns.take x.1)).hs)
    (fun x => [(2, ptr bg 0), (4, .pointer none), (5, .slice none 0 0), (6, ptr b6 0), (10, ptr p 0), (12, ptr b12 0), (13, .slice x.2.2.2.2.2.2.1 x.1 x.2.2.2.2.2.2.2), (57, .slice na ns.length nc), (58, .int .i64 ns.length), (59, .int .i64 x.1)])
    (fun x => [rowz 3 1 x.2.2.2.2.2.2.1 x.1 x.2.2.2.2.2.2.2 (intsV (layG (ns.take x.1)).at_), blk b12 [.int .i64 n, .slice x.2.2.2.1 x.2.2.2.2.2.1.length x.2.2.2.2.1] 36] ++ heapL p bw bs n x.2.1 (layG (ns.take x.1)).T x.2.2.1 ++ refL x.2.2.2.1 x.2.2.2.2.1 x.2.2.2.2.2.1 ++ [blk b6 [.int .i64 0, .slice none 0 0] 36, blk bg [.slice na ns.length nc, .slice ra0 rs.length rc0] 25, R])
    (fun x => ns.length - x.1) (0, ws0, st0, none, 0, [], none, 0) ⟨Nat.zero_le _, hB0⟩ Sgt
    (fun H hl => (rowz_nil (T := 3) (sz := 1) (a := none) (rowz_nil (T := 125) (sz := 5) (a := none) (RW_nil hl))).pick (is := [0, 2, 2, 2, 2, 0, 0, 0, 0, 0]) rfl) ?_
  rintro ⟨i, ws, st, a, cap, os, ta, tc⟩ ⟨hi, hB⟩
  dsimp only at hi hB ⊢
  repeat' (first | refine Wkb ?_ | intro _ | apply And.intro)
  · rename_i hlt
    refine J_block ?_
    obtain ⟨y, hy⟩ : ∃ y, ns[i]? = some y := ⟨ns[i]'(by omega), List.getElem?_eq_getElem _⟩
    have hyo := hnd y (List.mem_of_getElem? hy)
    have hye := he10 y (List.mem_of_getElem? hy)
    have hk0 := hyo.k0
    have hk1 := hyo.k1
    have hm0 := hyo.m0
    have hm1 := hyo.m1
    obtain ⟨hLi, hLa, hLT, hLb⟩ := layG_i (ns := ns) (i := i) hi
    have hnx := needG_next hy
    have hnt := needG_le (ns := ns) (i := i + 1)
    have hlx := layG_next hy
    generalize layG (ns.take i) = s at hLi hLa hLT hLb hlx hB ⊢
    obtain ⟨m2, hm2⟩ := Int.eq_ofNat_of_zero_le (show 0 ≤ y.k % 2 by omega)
    have hfill : (fillG s y).T ≤ s.T + 2 := by
      unfold fillG
      split
      · dsimp only; omega
      · omega
    have hmlen : (y.es.length : Int) + y.m % 4 = (lenG y : Nat) := by unfold lenG; omega
    have hlG : lenG y ≤ 13 := by unfold lenG; omega
    have htn := hB.ht.tn
    repeat' (first | refine Wka ?_ | intro _ | apply And.intro)
    refine JO_fact _ (fun w hs => hrn.some (by omega) hs Mmt) ?_
    rintro ⟨b, o, rfl⟩
    refine JO_val (OV_idx (off := o + i * 3) rfl rfl rfl rfl (by omega) (by omega) (by simp)) rfl rfl ?_
    refine JO_q (OQ_readA hrn Mmt rfl rfl rfl (by omega) (node_take hy)) rfl rfl ?_
    repeat' ((fail_if_success (with_reducible show J _ (Code.cond (Operand.tmp 66) _ _) _ _ _)); first | refine Wka ?_ | intro _ | apply And.intro)
    rename_i b15 _
    refine J_cutP (α := List Int × List Bool × Option Addr × Nat × List RO) (fun x => BInv n (fillG s y).T x.1 x.2.1 x.2.2.2.2 (fillG s y).hs)
      (fun x => [(2, ptr bg 0), (4, .pointer none), (5, .slice none 0 0), (6, ptr b6 0), (10, ptr p 0), (12, ptr b12 0), (13, .slice ta i tc), (15, ptr b15 0), (57, .slice (some ⟨b, o, none⟩) ns.length nc), (58, .int .i64 ns.length), (59, .int .i64 i)])
      (fun x => [blk b15 (cellsN y) 76, rowz 3 1 ta i tc (intsV s.at_), blk b12 [.int .i64 n, .slice x.2.2.1 x.2.2.2.2.length x.2.2.2.1] 36] ++ heapL p bw bs n x.1 (fillG s y).T x.2.1 ++ refL x.2.2.1 x.2.2.2.1 x.2.2.2.2 ++ [blk b6 [.int .i64 0, .slice none 0 0] 36, blk bg [.slice (some ⟨b, o, none⟩) ns.length nc, .slice ra0 rs.length rc0] 25, R]) ?_ ?_
    · by_cases h3 : (i : Int) % 3 = 2
      · have eF : fillG s y = ⟨s.i, s.T + 1 + m2, s.at_, s.hs ++ [(15, m2, 0)]⟩ := by unfold fillG; rw [if_pos (by omega), hm2]; rfl
        rw [eF]
        have hg : goodB 15 (m2 : Nat) 0 = true := decide_eq_true (by omega)
        repeat' (first | refine Wka ?_ | intro _ | apply And.intro)
        rw [hm2]
        refine JO_l (OL_call [3, 3, 3] rfl rfl rfl (Place_ok 15 0 m2 s.T hB.ht.wl hB.ht.sl hB.ht.nb hg (by omega)) rfl) rfl rfl ?_; rintro _ _ ⟨_, ⟨rfl, rfl⟩, rfl⟩
        repeat' (first | refine Wka ?_ | intro _ | apply And.intro)
        rw [hm2]
        refine JO_l (OL_call [6, 6] rfl rfl rfl (refPlace_ok 15 0 m2 hB.ch hB.ht.tn hB.ht.nb hg (by omega)) rfl) rfl rfl ?_; rintro _ _ ⟨_, ⟨a4, c4, wa, wc, rfl, rfl⟩, rfl⟩
        repeat' (first | refine Wka ?_ | intro _ | apply And.intro)
        exact At_meet (_, _, a4, c4, _) (hB.place hg (by omega) wa wc) Sgt (fun H hl => hl.pick (is := [6, 6, 0, 2, 2, 2, 0, 0, 0, 0, 0]) rfl)
      · have eF : fillG s y = s := by unfold fillG; rw [if_neg (by omega)]
        rw [eF]
        repeat' (first | refine Wka ?_ | intro _ | apply And.intro)
        exact At_meet (ws, st, a, cap, os) hB Sgt (fun H hl => hl)
    · clear hB
      rintro ⟨ws1, st1, a1, cap1, os1⟩ hB
      dsimp only at hB ⊢
      obtain ⟨Tq, hTq⟩ : ∃ Tq, Tq = (fillG s y).T := ⟨_, rfl⟩
      have hlx1 : layG (ns.take (i + 1)) = ⟨i + 1, Tq + 1 + lenG y, s.at_ ++ [(Tq : Int)], (fillG s y).hs ++ [(y.k % 15, lenG y, (y.es.length : Int))]⟩ := by
        rw [hlx, hTq]
        unfold stepG nodeG
        have e1 : (fillG s y).i = i := by unfold fillG; split <;> exact hLi
        have e2 : (fillG s y).at_ = s.at_ := by unfold fillG; split <;> rfl
        rw [e1, e2]
      rw [← hTq] at hB hfill ⊢
      have hk15 : 0 ≤ y.k % 15 ∧ y.k % 15 < 15 := by omega
      have hg : goodB (y.k % 15) (lenG y) y.es.length = true := decide_eq_true (by omega)
      have htn := hB.ht.tn
      have hnb := hB.ht.nb
      repeat' (first | refine Wka ?_ | intro _ | apply And.intro)
      rw [hmlen]
      rename_i b16 _
      refine JO_l (OL_call [4, 4, 4] rfl rfl rfl (Place_ok (y.k % 15) y.es.length (lenG y) Tq hB.ht.wl hB.ht.sl hB.ht.nb hg (by omega)) rfl) rfl rfl ?_; rintro _ _ ⟨_, ⟨rfl, rfl⟩, rfl⟩
      repeat' (first | refine Wka ?_ | intro _ | apply And.intro)
      refine JO_l (OL_call [7, 7] rfl rfl rfl (refPlace_ok (y.k % 15) y.es.length (lenG y) hB.ch hB.ht.tn hB.ht.nb hg (by omega)) rfl) rfl rfl ?_; rintro _ _ ⟨_, ⟨a4, c4, wa, wc, rfl, rfl⟩, rfl⟩
      have hB2 := hB.place hg (by omega) wa wc
      generalize zeroAt (ws1.set Tq (packI (y.k % 15) (lenG y) (y.es.length : Int))) (Tq + 1) (lenG y) = ws2 at hB2 ⊢
      generalize st1.set Tq true = st2 at hB2 ⊢
      generalize os1 ++ [(⟨Tq, y.k % 15, y.es.length, List.replicate (lenG y) 0, wa, wc⟩ : RO)] = os2 at hB2 ⊢
      refine JO_hp (fun H hl => hl.pick (is := [8, 7, 2, 2, 2, 0, 0, 2, 2, 2]) rfl) ?_
      repeat' (first | refine Wka ?_ | intro _ | apply And.intro)
      refine JO_l (OL_buildSlice (cs := [.int .i64 Tq]) rfl rfl rfl rfl rfl rfl rfl rfl) rfl rfl ?_
      rintro _ _ ⟨bb, rfl, rfl⟩
      refine JO_l (OL_appendr (m := 1) rfl rfl rfl rfl rfl (by first | exact P0 | exact P1 | exact P2 | exact P3 | exact P4 | exact P5 | exact P6 | exact P7) ((Reads.blk rfl).src (.head _)) rfl rfl (fun _ h => by cases h) (by omega) (by omega) (by decide)) rfl rfl ?_
      rintro _ _ ⟨ta2, tc2, rfl, rfl⟩
      repeat' (first | refine Wka ?_ | intro _ | apply And.intro)
      refine At_round (i + 1, ws2, st2, a4, c4, os2, ta2, tc2) (by show ns.length - (i + 1) < ns.length - i; omega) ⟨by show i + 1 ≤ ns.length; omega, by dsimp only; rw [hlx1]; exact hB2⟩ Sgt ?_
      intro H hl
      dsimp only
      rw [hlx1]
      have e : intsV (s.at_ ++ [(Tq : Int)]) = intsV s.at_ ++ [.int .i64 Tq] := List.map_append
      dsimp only
      rw [e]
      exact hl.pick (is := [0, 1, 2, 2, 2, 2, 2, 2, 2, 2]) rfl
  obtain rfl : i = ns.length := by omega
  obtain ⟨hLi, hLa, hLT, hLb⟩ := layG_i (ns := ns) (i := ns.length) (Nat.le_refl _)
  rw [List.take_length] at hLi hLa hLT hLb hB ⊢
  generalize layG ns = s at hLi hLa hLT hLb hB ⊢
  clear hB0
  have htn := hB.ht.tn
  have hLb2 : ∀ q ∈ s.at_, 0 ≤ q ∧ q ≤ 65536 := fun q hq => by have := hLb q hq; omega
  repeat' (first | refine Wka ?_ | intro _ | apply And.intro)
  refine J_loop (α := Nat × List Int × Option Addr × Nat × List RO) (fun x => x.1 ≤ ns.length ∧ BInv n s.T x.2.1 st x.2.2.2.2 s.hs)
    (fun x => [(2, ptr bg 0), (4, .pointer none), (5, .slice none 0 0), (6, ptr b6 0), (10, ptr p 0), (12, ptr b12 0), (13, .slice ta ns.length tc), (118, .slice na ns.length nc), (119, .int .i64 ns.length), (120, .int .i64 x.1)])
    (fun x => [rowz 3 1 ta ns.length tc (intsV s.at_), blk b12 [.int .i64 n, .slice x.2.2.1 x.2.2.2.2.length x.2.2.2.1] 36] ++ heapL p bw bs n x.2.1 s.T st ++ refL x.2.2.1 x.2.2.2.1 x.2.2.2.2 ++ [blk b6 [.int .i64 0, .slice none 0 0] 36, blk bg [.slice na ns.length nc, .slice ra0 rs.length rc0] 25, R])
    (fun x => ns.length - x.1) (0, ws, a, cap, os) ⟨Nat.zero_le _, hB⟩ Sgt (fun H hl => hl) ?_
  clear hB
  rintro ⟨i, ws, a, cap, os⟩ ⟨hi, hB⟩
  dsimp only at hi hB ⊢
  repeat' (first | refine Wkb ?_ | intro _ | apply And.intro)
  · rename_i hlt
    refine J_block ?_
    obtain ⟨y, hy⟩ : ∃ y, ns[i]? = some y := ⟨ns[i]'(by omega), List.getElem?_eq_getElem _⟩
    have hyo := hnd y (List.mem_of_getElem? hy)
    have hye := he10 y (List.mem_of_getElem? hy)
    have hnt := node_take hy
    clear hy
    obtain ⟨yk, es, ea, ec, ym⟩ := y
    obtain ⟨hk0, hk1, hm0, hm1, heb, hrd⟩ := hyo
    dsimp only at hk0 hk1 hm0 hm1 heb hrd hye hnt ⊢
    obtain ⟨q, hq⟩ : ∃ q, s.at_[i]? = some q := ⟨s.at_[i]'(by omega), List.getElem?_eq_getElem _⟩
    repeat' (first | refine Wka ?_ | intro _ | apply And.intro)
    refine JO_fact _ (fun w hs => hrn.some (by omega) hs Mmt) ?_
    rintro ⟨b, o, rfl⟩
    refine JO_val (OV_idx (off := o + i * 3) rfl rfl rfl rfl (by omega) (by omega) (by simp)) rfl rfl ?_
    refine JO_q (OQ_readA hrn Mmt rfl rfl rfl (by omega) hnt) rfl rfl ?_
    repeat' (first | refine Wka ?_ | intro _ | apply And.intro)
    rename_i b21 _
    refine J_loop (α := Nat × List Int × Option Addr × Nat × List RO) (fun x => x.1 ≤ es.length ∧ BInv n s.T x.2.1 st x.2.2.2.2 s.hs)
      (fun x => [(2, ptr bg 0), (4, .pointer none), (5, .slice none 0 0), (6, ptr b6 0), (10, ptr p 0), (12, ptr b12 0), (13, .slice ta ns.length tc), (20, .int .i64 i), (21, ptr b21 0), (118, .slice (some ⟨b, o, none⟩) ns.length nc), (119, .int .i64 ns.length), (120, .int .i64 i), (126, .slice ea es.length ec), (127, .int .i64 es.length), (128, .int .i64 x.1)])
      (fun x => [blk b21 [.int .u8 yk, .slice ea es.length ec, .int .u8 ym] 76, rowz 3 1 ta ns.length tc (intsV s.at_), blk b12 [.int .i64 n, .slice x.2.2.1 x.2.2.2.2.length x.2.2.2.1] 36] ++ heapL p bw bs n x.2.1 s.T st ++ refL x.2.2.1 x.2.2.2.1 x.2.2.2.2 ++ [blk b6 [.int .i64 0, .slice none 0 0] 36, blk bg [.slice (some ⟨b, o, none⟩) ns.length nc, .slice ra0 rs.length rc0] 25, R])
      (fun x => es.length - x.1) (0, ws, a, cap, os) ⟨Nat.zero_le _, hB⟩ Sgt (fun H hl => hl) ?_
    clear hB
    rintro ⟨k, ws, a, cap, os⟩ ⟨hk, hB⟩
    dsimp only at hk hB ⊢
    repeat' (first | refine Wkb ?_ | intro _ | apply And.intro)
    · rename_i hklt
      refine J_block ?_
      obtain ⟨e, he⟩ : ∃ e, es[k]? = some e := ⟨es[k]'(by omega), List.getElem?_eq_getElem _⟩
      obtain ⟨he0, he1⟩ := heb e (List.mem_of_getElem? he)
      repeat' (first | refine Wka ?_ | intro _ | apply And.intro)
      refine JO_fact _ (fun w hs => hrd.some (by omega) hs Mmt) ?_
      rintro ⟨b1, o1, rfl⟩
      refine JO_val (OV_idx (off := o1 + k) rfl rfl rfl rfl (by omega) (by omega) (by simp)) rfl rfl ?_
      refine JO_q (OQ_read (v := .int .u8 e) hrd Mmt rfl rfl (by omega) (by simp [u8V, he])) rfl rfl ?_
      repeat' (first | refine Wka ?_ | intro _ | apply And.intro)
      refine J_rowzf P1 ?_
      rintro ⟨hl, hnn, hcc⟩
      have hR : Reads (rowz 3 1 ta ns.length tc (intsV s.at_)) 1 ns.length ta tc (intsV s.at_) := Reads.rowz hl hnn
      refine J_fact _ (fun w hs => hR.some (by omega) hs Mmt) ?_
      rintro ⟨bt, ot, rfl⟩
      have hpl : Does Tryz.prog 26 [.slice (some ⟨bt, ot, none⟩) ns.length tc, .int .u8 e] [rowz 3 1 (some ⟨bt, ot, none⟩) ns.length tc (intsV s.at_)] (fun v l => v = .int .i64 (plcI s.at_ e) ∧ l = [rowz 3 1 (some ⟨bt, ot, none⟩) ns.length tc (intsV s.at_)]) := by
        rw [← hLa] at hR ⊢
        exact place11_spec e he0 he1 (by omega) hLb2 hR
      obtain ⟨hw0, hw1⟩ := plcI_in (z := e) hLb2
      generalize plcI s.at_ e = word at hw0 hw1 hpl
      have h64 : In64 word := ⟨by omega, by omega⟩
      have hqv : (intsV s.at_)[i]? = some (.int .i64 q) := by simp [intsV, hq]
      refine J_plan [rowz 3 1 (some ⟨bt, ot, none⟩) ns.length tc (intsV s.at_)] (fun H hl => hl.pick (is := [1]) rfl) [0, 0, 0, 0, 5, 0, 0, 0, 2, 6]
        (.q 0 (.q 1 (.q 2 (.q 3 (.q 4 (.q 5 (.q 6 (.q 7 (.l1 8 (.l1 9 .fin)))))))))) (by kernel_rfl) (by kernel_rfl) ?_
      repeat' (first | refine Wkf ?_ | intro _ | apply And.intro)
      refine JF_val rfl (OV_idx (off := ot + i) rfl rfl rfl rfl (by omega) (by omega) (by simp)) rfl rfl ?_
      refine JF_kept rfl rfl (OK_read (i := i) (v := .int .i64 q) hR Mmt rfl rfl (by omega) hqv) rfl rfl ?_
      repeat' (first | refine Wkf ?_ | intro _ | apply And.intro)
      refine JF_l1 (JFO_l rfl (OL_call [1] rfl rfl rfl hpl rfl) rfl rfl (.inr ?_) ?_)
      · rintro _ _ ⟨_, ⟨rfl, rfl⟩, rfl⟩ H hl
        exact hl.pick (is := [0]) rfl
      rintro _ _ ⟨_, ⟨rfl, rfl⟩, rfl⟩ _
      refine JF_l1 (JFO_l rfl (OL_call [3, 3, 3] rfl rfl rfl (Write_specT q k word hB.ht h64) rfl) rfl rfl (.inl rfl) ?_)
      rintro _ _ ⟨_, ⟨rfl, rfl⟩, rfl⟩ _
      repeat' (first | refine Wkf ?_ | intro _ | apply And.intro)
      repeat' (first | refine Wka ?_ | intro _ | apply And.intro)
      refine J_plan [blk b12 [.int .i64 n, .slice a os.length cap] 36, rowz 3 1 (some ⟨bt, ot, none⟩) ns.length tc (intsV s.at_)] (fun H hl => hl.pick (is := [5, 3]) rfl) [5, 0, 0, 0, 5, 0, 0, 0, 2, 2, 0, 0, 0, 6]
        (.q 0 (.q 1 (.q 2 (.q 3 (.q 4 (.q 5 (.q 6 (.q 7 (.l1 8 (.l1 9 (.q 10 (.q 11 (.q 12 (.l1 13 .fin)))))))))))))) (by kernel_rfl) (by kernel_rfl) ?_
      repeat' (first | refine Wkf ?_ | intro _ | apply And.intro)
      refine JF_val rfl (OV_idx (off := ot + i) rfl rfl rfl rfl (by omega) (by omega) (by simp)) rfl rfl ?_
      refine JF_kept rfl rfl (OK_read (i := i) (v := .int .i64 q) hR Mmt rfl rfl (by omega) hqv) rfl rfl ?_
      repeat' (first | refine Wkf ?_ | intro _ | apply And.intro)
      refine JF_l1 (JFO_l rfl (OL_call [3] rfl rfl rfl hpl rfl) rfl rfl (.inr ?_) ?_)
      · rintro _ _ ⟨_, ⟨rfl, rfl⟩, rfl⟩ H hl
        exact hl.pick (is := [5, 0]) rfl
      rintro _ _ ⟨_, ⟨rfl, rfl⟩, rfl⟩ _
      refine JF_l1 (JFO_l rfl (OL_call [6, 6] rfl rfl rfl (refWrite_spec n q k word hB.ht hB.ch h64) rfl) rfl rfl (.inr ?_) ?_)
      · rintro _ _ ⟨_, ⟨a4, c4, os4, hc4, rfl, rfl⟩, rfl⟩ H hl
        exact hl.pick (is := [7, 2]) rfl
      rintro _ _ ⟨_, ⟨a4, c4, os4, hc4, rfl, rfl⟩, rfl⟩ _
      have hB2 := hB.write h64 hc4
      generalize writeW ws st q k word = ws2 at hB2
      repeat' (first | refine Wkf ?_ | intro _ | apply And.intro)
      refine JF_l1 (JFO_l0 rfl (OL_store rfl rfl rfl rfl rfl rfl (by first | exact P0 | exact P1 | exact P2 | exact P3 | exact P4 | exact P5 | exact P6 | exact P7) (by rfl)) rfl (.inl rfl) ?_)
      rintro _ _ rfl _
      repeat' (first | refine Wkf ?_ | intro _ | apply And.intro)
      repeat' (first | refine Wka ?_ | intro _ | apply And.intro)
      exact At_round (k + 1, ws2, a4, c4, os4) (by show es.length - (k + 1) < es.length - k; omega) ⟨by show k + 1 ≤ es.length; omega, hB2⟩ Sgt (fun H hl => hl.pick (is := [7, 3, 0, 2, 2, 2, 0, 0, 0, 0, 0]) rfl)
    obtain rfl : k = es.length := by omega
    obtain ⟨m3, hm3⟩ := Int.eq_ofNat_of_zero_le (show 0 ≤ ym % 4 by omega)
    rw [hm3]
    have hm34 : m3 < 4 := by omega
    repeat' (first | refine Wka ?_ | intro _ | apply And.intro)
    refine J_loop (α := Nat × List Int × Option Addr × Nat × List RO) (fun x => x.1 ≤ m3 ∧ BInv n s.T x.2.1 st x.2.2.2.2 s.hs)
      (fun x => [(2, ptr bg 0), (4, .pointer none), (5, .slice none 0 0), (6, ptr b6 0), (10, ptr p 0), (12, ptr b12 0), (13, .slice ta ns.length tc), (20, .int .i64 i), (21, ptr b21 0), (118, .slice (some ⟨b, o, none⟩) ns.length nc), (119, .int .i64 ns.length), (120, .int .i64 i), (160, .int .i64 m3), (161, .int .i64 x.1)])
      (fun x => [blk b21 [.int .u8 yk, .slice ea es.length ec, .int .u8 ym] 76, rowz 3 1 ta ns.length tc (intsV s.at_), blk b12 [.int .i64 n, .slice x.2.2.1 x.2.2.2.2.length x.2.2.2.1] 36] ++ heapL p bw bs n x.2.1 s.T st ++ refL x.2.2.1 x.2.2.2.1 x.2.2.2.2 ++ [blk b6 [.int .i64 0, .slice none 0 0] 36, blk bg [.slice (some ⟨b, o, none⟩) ns.length nc, .slice ra0 rs.length rc0] 25, R])
      (fun x => m3 - x.1) (0, ws, a, cap, os) ⟨Nat.zero_le _, hB⟩ Sgt (fun H hl => hl) ?_
    clear hB
    rintro ⟨k, ws, a, cap, os⟩ ⟨hk, hB⟩
    dsimp only at hk hB ⊢
    repeat' (first | refine Wkb ?_ | intro _ | apply And.intro)
    · rename_i hklt
      refine J_block ?_
      repeat' (first | refine Wka ?_ | intro _ | apply And.intro)
      refine J_rowzf P1 ?_
      rintro ⟨hl, hnn, hcc⟩
      have hR : Reads (rowz 3 1 ta ns.length tc (intsV s.at_)) 1 ns.length ta tc (intsV s.at_) := Reads.rowz hl hnn
      refine J_fact _ (fun w hs => hR.some (by omega) hs Mmt) ?_
      rintro ⟨bt, ot, rfl⟩
      have hqv : (intsV s.at_)[i]? = some (.int .i64 q) := by simp [intsV, hq]
      have h64 : In64 (100 * (i : Int) + k) := ⟨by omega, by omega⟩
      have hf3 : (es.length : Int) + k = ((es.length + k : Nat) : Int) := by omega
      refine J_draw [0, 0, 0, 0, 1, 0, 1, 0, 0, 0, 0, 0, 0, 0, 2] (List.range 15) (by kernel_rfl) (by kernel_rfl) ?_
      repeat' (first | refine Wkd ?_ | intro _ | apply And.intro)
      refine JX_val rfl rfl (OV_idx (off := ot + i) rfl rfl rfl rfl (by omega) (by omega) (by simp)) rfl rfl ?_
      refine JX_q rfl rfl (OQ_read (i := i) (v := .int .i64 q) hR Mmt rfl rfl (by omega) hqv) rfl rfl ?_
      repeat' (first | refine Wkd ?_ | intro _ | apply And.intro)
      obtain ⟨word, hwd⟩ : ∃ word, word = 100 * (i : Int) + k := ⟨_, rfl⟩
      rw [← hwd] at h64
      rw [hf3, ← hwd]
      refine JX_l rfl rfl (OL_call [3, 3, 3] rfl rfl rfl (Write_specT q (es.length + k : Nat) word hB.ht h64) rfl) rfl rfl ?_
      rintro _ _ ⟨_, ⟨rfl, rfl⟩, rfl⟩
      repeat' (first | refine Wkd ?_ | intro _ | apply And.intro)
      repeat' (first | refine Wka ?_ | intro _ | apply And.intro)
      refine J_draw [1, 0, 0, 0, 1, 0, 1, 0, 0, 0, 0, 0, 0, 0, 2, 0, 0, 0, 2] (List.range 19) (by kernel_rfl) (by kernel_rfl) ?_
      repeat' (first | refine Wkd ?_ | intro _ | apply And.intro)
      refine JX_val rfl rfl (OV_idx (off := ot + i) rfl rfl rfl rfl (by omega) (by omega) (by simp)) rfl rfl ?_
      refine JX_q rfl rfl (OQ_read (i := i) (v := .int .i64 q) hR Mmt rfl rfl (by omega) hqv) rfl rfl ?_
      repeat' (first | refine Wkd ?_ | intro _ | apply And.intro)
      rw [hf3, ← hwd]
      refine JX_l rfl rfl (OL_call [6, 6] rfl rfl rfl (refWrite_spec n q (es.length + k : Nat) word hB.ht hB.ch h64) rfl) rfl rfl ?_
      rintro _ _ ⟨_, ⟨a4, c4, os4, hc4, rfl, rfl⟩, rfl⟩
      have hB2 := hB.write h64 hc4
      generalize writeW ws st q (es.length + k : Nat) word = ws2 at hB2
      repeat' (first | refine Wkd ?_ | intro _ | apply And.intro)
      repeat' (first | refine Wka ?_ | intro _ | apply And.intro)
      exact At_round (k + 1, ws2, a4, c4, os4) (by show m3 - (k + 1) < m3 - k; omega) ⟨by show k + 1 ≤ m3; omega, hB2⟩ Sgt (fun H hl => hl.pick (is := [6, 6, 0, 2, 2, 2, 0, 0, 0, 0, 0]) rfl)
    · repeat' (first | refine Wka ?_ | intro _ | apply And.intro)
      exact At_round (i + 1, ws, a, cap, os) (by show ns.length - (i + 1) < ns.length - i; omega) ⟨by show i + 1 ≤ ns.length; omega, hB⟩ Sgt (fun H hl => hl.tail)
  repeat' (first | refine Wka ?_ | intro _ | apply And.intro)
  refine J_loop (α := Nat × Option Addr × Nat) (fun x => x.1 ≤ rs.length)
    (fun x => [(4, .pointer none), (5, .slice none 0 0), (6, ptr b6 0), (10, ptr p 0), (12, ptr b12 0), (13, .slice ta ns.length tc), (25, .slice x.2.1 x.1 x.2.2), (200, .slice ra0 rs.length rc0), (201, .int .i64 rs.length), (202, .int .i64 x.1)])
    (fun x => [rowz 3 1 x.2.1 x.1 x.2.2 (intsV ((rs.take x.1).map (plcI s.at_))), rowz 3 1 ta ns.length tc (intsV s.at_), blk b12 [.int .i64 n, .slice a os.length cap] 36] ++ heapL p bw bs n ws s.T st ++ refL a cap os ++ [blk b6 [.int .i64 0, .slice none 0 0] 36, R])
    (fun x => rs.length - x.1) (0, none, 0) (Nat.zero_le _) Sgt (fun H hl => (rowz_nil (T := 3) (sz := 1) (a := none) hl).pick (is := [0, 0, 0, 0, 0, 0, 0, 0, 0, 1]) rfl) ?_
  rintro ⟨k, ra, rc⟩ hk
  dsimp only at hk ⊢
  repeat' (first | refine Wkb ?_ | intro _ | apply And.intro)
  · rename_i hklt
    refine J_block ?_
    obtain ⟨e, he⟩ : ∃ e, rs[k]? = some e := ⟨rs[k]'(by omega), List.getElem?_eq_getElem _⟩
    obtain ⟨he0, he1⟩ := hrb e (List.mem_of_getElem? he)
    repeat' (first | refine Wka ?_ | intro _ | apply And.intro)
    refine JO_fact _ (fun w hs => hrr.some (by omega) hs Mmt) ?_
    rintro ⟨b1, o1, rfl⟩
    refine JO_val (OV_idx (off := o1 + k) rfl rfl rfl rfl (by omega) (by omega) (by simp)) rfl rfl ?_
    refine JO_q (OQ_read (v := .int .u8 e) hrr Mmt rfl rfl (by omega) (by simp [u8V, he])) rfl rfl ?_
    repeat' (first | refine Wka ?_ | intro _ | apply And.intro)
    refine JO_fact _ (fun w hs => rowz_len (T := 3) (sz := 1) (m := ns.length) (cap := tc) (a := ta) (cs := intsV s.at_) hs Mmt) ?_
    rintro ⟨hl, hnn, hcc⟩
    have hR : Reads (rowz 3 1 ta ns.length tc (intsV s.at_)) 1 ns.length ta tc (intsV s.at_) := Reads.rowz hl hnn
    have hpl : Does Tryz.prog 26 [.slice ta ns.length tc, .int .u8 e] [rowz 3 1 ta ns.length tc (intsV s.at_)] (fun v l => v = .int .i64 (plcI s.at_ e) ∧ l = [rowz 3 1 ta ns.length tc (intsV s.at_)]) := by
      rw [← hLa] at hR ⊢
      exact place11_spec e he0 he1 (by omega) hLb2 hR
    have hnx : intsV ((rs.take (k + 1)).map (plcI s.at_)) = intsV ((rs.take k).map (plcI s.at_)) ++ [.int .i64 (plcI s.at_ e)] := by
      rw [take_next he, List.map_append]
      exact List.map_append
    generalize plcI s.at_ e = word at hpl hnx
    refine JO_l (OL_call [1] rfl rfl rfl (hpl) rfl) rfl rfl ?_; rintro _ _ ⟨_, ⟨rfl, rfl⟩, rfl⟩
    refine JO_l (OL_buildSlice (cs := [.int .i64 word]) rfl rfl rfl rfl rfl rfl rfl rfl) rfl rfl ?_
    rintro _ _ ⟨bb, rfl, rfl⟩
    refine JO_l (OL_appendr (m := 1) rfl rfl rfl rfl rfl P2 ((Reads.blk rfl).src (.head _)) rfl rfl (fun _ h => by cases h) (by omega) (by omega) (by decide)) rfl rfl ?_
    rintro _ _ ⟨ta2, tc2, rfl, rfl⟩
    repeat' (first | refine Wka ?_ | intro _ | apply And.intro)
    refine At_round (k + 1, ta2, tc2) (by show rs.length - (k + 1) < rs.length - k; omega) (by show k + 1 ≤ rs.length; omega) Sgt ?_
    intro H hl
    dsimp only
    rw [hnx]
    exact hl.pick (is := [0, 1, 1, 1, 1, 1, 1, 1, 1, 1]) rfl
  obtain rfl : k = rs.length := by omega
  rw [List.take_length]
  repeat' (first | refine Wka ?_ | intro _ | apply And.intro)
  refine J_draw [0, 0, 1, 0, 0, 2] (List.range 6) (by kernel_rfl) (by kernel_rfl) ?_
  repeat' (first | refine Wkd ?_ | intro _ | apply And.intro)
  refine JX_l0 rfl rfl (OL_store rfl rfl rfl rfl rfl rfl (i := 8) rfl (by rfl)) rfl ?_
  rintro _ _ rfl
  repeat' (first | refine Wkd ?_ | intro _ | apply And.intro)
  repeat' (first | refine Wka ?_ | intro _ | apply And.intro)
  exact At_ret rfl rfl (.tmp rfl (.tmp rfl (.agg rfl rfl rfl Mmt rfl .nil))) rfl (is := [4, 4, 4, 4, 4, 1, 3]) rfl ⟨p, bw, bs, n, s.T, ws, st, a, cap, os, ra, rc, hB, rfl, rfl, rfl, rfl⟩
end Go.Proofs.YtfmkjbmogfhpbaaGreatDoor
namespace Go.Sep
open Go.RowKit
section ops
variable {C : Ctx} {g : Regs} {t t' : TypeId} {x y : Operand} {a b n : Nat}
theorem OV_binr {op : BinOp} {k k' : IntKind} {m q : Int} {v : Value} (hx : ev g x = some (.int k m)) (hy : ev g y = some (.int k' q)) (h : ∀ w, (binOp op t (.int k m) (.int k' q)).run C.P w = .ok v w) : OpV C g (.binOp op t x y t') v := by
  refine ⟨(by intro c h; cases h), fun d ty pos af gd ac w hf => ?_⟩
  simp only [execOp, hf.ev hx, hf.ev hy]
  rw [Sem.run_bind, run_guarded (h w)]
  rfl
theorem OV_shrU {k : IntKind} (hx : ev g x = some (.int .u64 (a : Int))) (hy : ev g y = some (.int k (n : Int))) (hn : n ≤ 64) : OpV C g (.binOp .shr t x y t') (.int .u64 ((a / 2 ^ n : Nat) : Int)) := by
  refine OV_binr hx hy fun w => ?_
  rw [binOp_shr, shift_shr_any _ _ _ _ (by omega)]
  have e : min ((n : Int)).toNat (IntKind.u64).bits = n := by
    show min ((n : Int)).toNat 64 = n
    omega
  rw [e]
  have e2 : (a : Int) / 2 ^ n = ((a / 2 ^ n : Nat) : Int) := by simp
  rw [e2]
  rfl
theorem OV_shlU {k : IntKind} (hx : ev g x = some (.int .u64 (a : Int))) (hy : ev g y = some (.int k (n : Int))) (hn : n ≤ 64) (hb : a * 2 ^ n < 18446744073709551616) : OpV C g (.binOp .shl t x y t') (.int .u64 ((a * 2 ^ n : Nat) : Int)) := by
  refine OV_binr hx hy fun w => ?_
  rw [binOp_shl, shift_shl_any _ _ _ _ (by omega)]
  have e : min ((n : Int)).toNat (IntKind.u64).bits = n := by
    show min ((n : Int)).toNat 64 = n
    omega
  rw [e]
  have e2 : (a : Int) * 2 ^ n = ((a * 2 ^ n : Nat) : Int) := by simp
  rw [e2, IntKind.wrap_u64]
  have e3 : ((a * 2 ^ n : Nat) : Int) % 18446744073709551616 = ((a * 2 ^ n : Nat) : Int) := Int.emod_eq_of_lt (by omega) (by omega)
  rw [e3]
  rfl
theorem OV_andU (hx : ev g x = some (.int .u64 (a : Int))) (hy : ev g y = some (.int .u64 (b : Int))) (ha : a < 18446744073709551616) (hb : b < 18446744073709551616) : OpV C g (.binOp .and t x y t') (.int .u64 ((a &&& b : Nat) : Int)) := by
  refine OV_binr hx hy fun w => ?_
  rw [← bits_and_u64_nat a b ha hb]
  simp [binOp, Op.intBits, Pure.pure, Sem.run, bits]
theorem OV_orU (hx : ev g x = some (.int .u64 (a : Int))) (hy : ev g y = some (.int .u64 (b : Int))) (ha : a < 18446744073709551616) (hb : b < 18446744073709551616) : OpV C g (.binOp .or t x y t') (.int .u64 ((a ||| b : Nat) : Int)) := by
  refine OV_binr hx hy fun w => ?_
  rw [← bits_or_u64_nat a b ha hb]
  simp [binOp, Op.intBits, Pure.pure, Sem.run, bits]
end ops
end Go.Sep
namespace Go.Proofs.YtfmkjbmogfhpbaaGreatDoor
open Go.Sep
abbrev wordsU (ms : List Nat) : List Value := ms.map fun a : Nat => Value.int .u64 (a : Int)
abbrev marksL (pm bm n : Nat) (ms : List Nat) : List HP := [blk pm [sl bm ms.length, .int .i64 n] 183, blk bm (wordsU ms) 221]
def bitB (ms : List Nat) (i : Nat) : Bool := (ms.getD (i / 64) 0).testBit (i % 64)
structure MI (n : Nat) (ms : List Nat) : Prop where
  ml : ms.length = (n + 63) / 64
  nb : n ≤ 65536
  wb : ∀ a ∈ ms, a < 18446744073709551616
theorem pow64 {n : Nat} (h : n < 64) : 2 ^ n < 18446744073709551616 := Nat.lt_of_lt_of_eq (Nat.pow_lt_pow_right (by decide) h) (by decide)
theorem marksNew (n : Nat) (h1 : 1 ≤ n) (h2 : n ≤ 65536) : Does Tryz.prog 68 [.int .i64 n] [] (fun v l => ∃ pm bm, v = .tuple #[ptr pm 0, .int .i64 0] ∧ l = marksL pm bm n (List.replicate ((n + 63) / 64) 0)) := by
  refine Does.of tiok Tryz.func68 (by kernel_rfl) rfl Tryz.ntmps68 rfl ?_
  intro W fr
  repeat' (first | refine Wka ?_ | intro _ | apply And.intro)
  rw [show ((n : Int) + 64 - 1) / 64 = (((n + 63) / 64 : Nat) : Int) by omega]
  refine JO_l (OL_makeN rfl rfl rfl rfl (by omega) (by omega)) rfl rfl ?_
  rintro _ _ ⟨bm, rfl, rfl⟩
  repeat' (first | refine Wka ?_ | intro _ | apply And.intro)
  rename_i pm
  refine At_ret rfl rfl (.tmp rfl (.tmp rfl .nil)) rfl (is := [0, 0]) rfl ⟨pm, bm, rfl, ?_⟩
  simp [wordsU]
section ops
variable {pm bm n : Nat} {ms : List Nat}
theorem Has_in (i : Nat) (h : MI n ms) (hi : i < n) : Does Tryz.prog 153 [ptr pm 0, .int .i64 i] (marksL pm bm n ms) (fun v l => v = .bool (bitB ms i) ∧ l = marksL pm bm n ms) := by
  have hml := h.ml
  have hnb := h.nb
  obtain ⟨a, ha⟩ : ∃ a, ms[i / 64]? = some a := ⟨ms[i / 64]'(by omega), List.getElem?_eq_getElem _⟩
  have hab := h.wb a (List.mem_of_getElem? ha)
  have hdiv : (i : Int) / 64 = ((i / 64 : Nat) : Int) := by omega
  have hmod : (i : Int) % 64 = ((i % 64 : Nat) : Int) := by omega
  refine Does.of tiok Tryz.func153 (by kernel_rfl) rfl Tryz.ntmps153 rfl ?_
  intro W fr
  repeat' (first | refine Wka ?_ | intro _ | apply And.intro)
  rw [hdiv]
  refine JO_val (OV_idx (off := i / 64) rfl rfl rfl rfl (by omega) (by omega) (by omega)) rfl rfl ?_
  refine JO_q (OQ_load (v := .int .u64 (a : Int)) rfl rfl Mmt (by rw [List.getElem?_map, ha]; rfl)) rfl rfl ?_
  repeat' (first | refine Wka ?_ | intro _ | apply And.intro)
  rw [hmod]
  refine JO_val (OV_shrU (a := a) (n := i % 64) rfl rfl (by omega)) rfl rfl ?_
  refine JO_val (OV_andU (a := a / 2 ^ (i % 64)) (b := 1) rfl rfl (Nat.lt_of_le_of_lt (Nat.div_le_self _ _) hab) (by decide)) rfl rfl ?_
  repeat' (first | refine Wka ?_ | intro _ | apply And.intro)
  refine At_ret rfl rfl (.tmp rfl .nil) rfl (is := [0, 0]) rfl ⟨congrArg Value.bool ?_, rfl⟩
  unfold bitB
  rw [List.getD_eq_getElem?_getD, ha, Option.getD_some, Nat.testBit_eq_decide_div_mod_eq, Nat.and_one_is_mod]
  exact decide_eq_decide.2 (by omega)
def setM (ms : List Nat) (i : Nat) : List Nat := ms.set (i / 64) (ms.getD (i / 64) 0 ||| 1 * 2 ^ (i % 64))
theorem putL_wordsU {ms : List Nat} {i : Nat} (v : Nat) (h : i < ms.length) : putL (wordsU ms) i [.int .u64 (v : Int)] = some (wordsU (ms.set i v)) := by
  rw [putL_split (by simp; omega)]
  congr 1
  simp only [wordsU]
  rw [List.map_set, List.set_eq_take_append_cons_drop, if_pos (by simpa using h)]
  simp
theorem MI.set {i : Nat} (h : MI n ms) (hi : i < n) : MI n (setM ms i) := by
  have hml := h.ml
  refine ⟨by unfold setM; simp [hml], h.nb, fun a ha => ?_⟩
  rcases List.mem_or_eq_of_mem_set ha with ha | rfl
  · exact h.wb a ha
  · have h1 : ms.getD (i / 64) 0 < 18446744073709551616 := by
      have hlt : i / 64 < ms.length := by omega
      rw [List.getD_eq_getElem?_getD, List.getElem?_eq_getElem hlt]
      exact h.wb _ (List.getElem_mem hlt)
    have h2 : 1 * 2 ^ (i % 64) < 18446744073709551616 := by rw [Nat.one_mul]; exact pow64 (Nat.mod_lt _ (by decide))
    exact Nat.or_lt_two_pow (n := 64) h1 h2
theorem bitB_set {i j : Nat} (h : MI n ms) (hi : i < n) : bitB (setM ms i) j = (bitB ms j || decide (j = i)) := by
  have hml := h.ml
  have hlt : i / 64 < ms.length := by omega
  unfold bitB setM
  rw [Nat.one_mul, List.getD_eq_getElem?_getD, List.getElem?_set]
  by_cases e : i / 64 = j / 64
  · rw [if_pos e, if_pos hlt, Option.getD_some, Nat.testBit_or, Nat.testBit_two_pow, e]
    congr 1
    exact decide_eq_decide.2 (by omega)
  · rw [if_neg e, ← List.getD_eq_getElem?_getD, decide_eq_false (by intro e2; subst e2; exact e rfl), Bool.or_false]
set_option maxHeartbeats 4000000 in
theorem Set_in (i : Nat) (h : MI n ms) (hi : i < n) : Does Tryz.prog 140 [ptr pm 0, .int .i64 i] (marksL pm bm n ms) (fun v l => v = .tuple #[.bool (!bitB ms i), .int .i64 0] ∧ l = marksL pm bm n (setM ms i)) := by
  have hml := h.ml
  have hnb := h.nb
  obtain ⟨a, ha⟩ : ∃ a, ms[i / 64]? = some a := ⟨ms[i / 64]'(by omega), List.getElem?_eq_getElem _⟩
  have hab := h.wb a (List.mem_of_getElem? ha)
  have haD : ms.getD (i / 64) 0 = a := by rw [List.getD_eq_getElem?_getD, ha]; rfl
  have hdiv : (i : Int) / 64 = ((i / 64 : Nat) : Int) := by omega
  have hmod : (i : Int) % 64 = ((i % 64 : Nat) : Int) := by omega
  have hp := pow64 (n := i % 64) (Nat.mod_lt _ (by decide))
  refine Does.of tiok Tryz.func140 (by kernel_rfl) rfl Tryz.ntmps140 rfl ?_
  intro W fr
  repeat' (first | refine Wka ?_ | intro _ | apply And.intro)
  refine JO_l (OL_call [0, 0] rfl rfl rfl (Has_in i h hi) rfl) rfl rfl ?_; rintro _ _ ⟨_, ⟨rfl, rfl⟩, rfl⟩
  generalize bitB ms i = bv
  repeat' (first | refine Wka ?_ | intro _ | apply And.intro)
  refine J_draw [0, 0, 0, 1, 0, 0, 0, 1, 0, 0, 0, 0, 0, 2] (List.range 14) (by kernel_rfl) (by kernel_rfl) ?_
  repeat' (first | refine Wkd ?_ | intro _ | apply And.intro)
  rw [hdiv]
  refine JX_val rfl rfl (OV_idx (off := i / 64) rfl rfl rfl rfl (by omega) (by omega) (by omega)) rfl rfl ?_
  refine JX_q rfl rfl (OQ_load (v := .int .u64 (a : Int)) rfl rfl Mmt (by rw [List.getElem?_map, ha]; rfl)) rfl rfl ?_
  repeat' (first | refine Wkd ?_ | intro _ | apply And.intro)
  rw [hmod]
  refine JX_val rfl rfl (OV_shlU (a := 1) (n := i % 64) rfl rfl (by omega) (by omega)) rfl rfl ?_
  refine JX_val rfl rfl (OV_orU (a := a) (b := 1 * 2 ^ (i % 64)) rfl rfl hab (by omega)) rfl rfl ?_
  refine JX_val rfl rfl (OV_idx (off := i / 64) rfl rfl rfl rfl (by omega) (by omega) (by omega)) rfl rfl ?_
  refine JX_l0 rfl rfl (OL_store rfl rfl rfl rfl rfl rfl (by first | exact P0 | exact P1 | exact P2 | exact P3 | exact P4 | exact P5 | exact P6 | exact P7) (putL_wordsU (a ||| 1 * 2 ^ (i % 64)) (by omega))) rfl ?_
  rintro _ _ rfl
  repeat' (first | refine Wkd ?_ | intro _ | apply And.intro)
  repeat' (first | refine Wka ?_ | intro _ | apply And.intro)
  refine At_ret rfl rfl (.tmp rfl (.tmp rfl .nil)) rfl (is := [1, 0]) rfl ⟨rfl, ?_⟩
  unfold setM
  rw [haD]
  simp
end ops
open Go.Sep
theorem bitB_zero {k i : Nat} : bitB (List.replicate k 0) i = false := by
  unfold bitB
  rw [List.getD_eq_getElem?_getD, List.getElem?_replicate]
  split <;> simp
theorem MI.new {n : Nat} (h : n ≤ 65536) : MI n (List.replicate ((n + 63) / 64) 0) := ⟨by simp, h, fun a ha => by rw [(List.mem_replicate.1 ha).2]; decide⟩
theorem Ch.o_lt {ws : List Int} {os : List RO} {T j : Nat} {o : RO} (h : Ch ws 0 os T) (hj : os[j]? = some o) : o.i + 1 + o.ws.length ≤ T := (h.at hj).2.2.2.2.2.le
open Go.Sep
structure RG where
  c : List Int
  a : Option Addr
  k : Nat
abbrev cellG (r : RG) : Value := .slice r.a r.c.length r.k
abbrev rowG (r : RG) : HP := rowz 3 1 r.a r.c.length r.k (intsV r.c)
def GW (rs : List RG) : HP := big (rs.map rowG)
def okG (rs : List RG) : Prop := ∀ r ∈ rs, r.a = none → r.c.length = 0 ∧ r.k = 0
theorem GW_ok {W w : World} {l : List HP} {rs : List RG} (hs : Sat W l w) (hm : GW rs ∈ l) : okG rs := by
  intro r hr hn
  obtain ⟨h1, s1, k1⟩ := hs.stars.mem hm
  obtain ⟨h2, s2, k2⟩ := Stars.mem (l := rs.map rowG) k1 (List.mem_map_of_mem (f := rowG) hr)
  have k3 : rowz 3 1 r.a r.c.length r.k (intsV r.c) h2 := k2
  rw [hn] at k3
  exact rowz_none k3
theorem GW.reads {rs : List RG} {r : RG} (hr : r ∈ rs) (ok : okG rs) : Reads (GW rs) 1 r.c.length r.a r.k (intsV r.c) := by
  have h : Reads (rowG r) 1 r.c.length r.a r.k (intsV r.c) := Reads.rowz (by simp) (ok r hr)
  refine ⟨by simp, ok r hr, fun W l w hs hm i hi => ?_⟩
  obtain ⟨h1, s1, k1⟩ := hs.stars.mem hm
  obtain ⟨h2, s2, k2⟩ := Stars.mem (l := rs.map rowG) k1 (List.mem_map_of_mem (f := rowG) hr)
  exact h.cell W [rowG r] w ⟨hs.os, hs.tape, hs.output, one_star (s2.trans s1) k2⟩ (.head _) i hi
theorem perm_at {α : Type} : ∀ {rs : List α} {k : Nat} {r : α}, rs[k]? = some r → rs.Perm (r :: rs.eraseIdx k)
  | [], k, r, h => by simp at h
  | x :: rs, 0, r, h => by simp at h; subst h; exact List.Perm.refl _
  | x :: rs, k + 1, r, h => ((perm_at (rs := rs) (k := k) (by simpa using h)).cons x).trans (List.Perm.swap _ _ _)
theorem perm_put {α : Type} : ∀ {rs : List α} {k : Nat} {r' : α}, k < rs.length → (r' :: rs.eraseIdx k).Perm (rs.set k r')
  | [], k, r, h => by simp at h
  | x :: rs, 0, r, h => List.Perm.refl _
  | x :: rs, k + 1, r, h => (List.Perm.swap _ _ _).trans ((perm_put (rs := rs) (k := k) (by simpa using h)).cons x)
theorem GW_new (n : Nat) {l : List HP} {H : PH} (h : Stars l H) : Stars (GW (List.replicate n ⟨[], none, 0⟩) :: l) H := by
  refine Stars.shut ?_
  rw [List.map_replicate]
  induction n with
  | zero => exact h
  | succ n ih => exact rowz_nil ih
theorem GW.out {rs : List RG} {k : Nat} {r : RG} {l : List HP} {H : PH} (hk : rs[k]? = some r) (h : Stars (GW rs :: l) H) : Stars (rowG r :: GW (rs.eraseIdx k) :: l) H := by
  have h1 : Stars (rs.map rowG ++ l) H := h.open
  have h2 : Stars ((rowG r :: (rs.eraseIdx k).map rowG) ++ l) H := h1.perm (((perm_at hk).map rowG).append_right _)
  have h3 : Stars ((rs.eraseIdx k).map rowG ++ (rowG r :: l)) H := h2.perm (List.perm_middle.symm)
  exact Stars.swap (Stars.shut h3)
theorem GW.back {rs : List RG} {k : Nat} {r' : RG} {l : List HP} {H : PH} (hk : k < rs.length) (h : Stars (rowG r' :: GW (rs.eraseIdx k) :: l) H) : Stars (GW (rs.set k r') :: l) H := by
  have h1 := (Stars.swap h).open
  have h2 : Stars ((rowG r' :: (rs.eraseIdx k).map rowG) ++ l) H := h1.perm List.perm_middle
  exact Stars.shut (h2.perm (((perm_put (r' := r') hk).map rowG).append_right _))
def lvB (ms : List Nat) (o : RO) : Bool := decide (o.k ≠ 15) && bitB ms o.i
def lvs (ms : List Nat) (os : List RO) : List RO := os.filter (lvB ms)
def inR (w k : Nat) (L : List RO) : List RO := L.filter fun o => decide (o.i / w = k)
def befR (w k : Nat) (L : List RO) : List RO := L.filter fun o => decide (o.i / w < k)
def szL (L : List RO) : Nat := (L.map fun o => 1 + o.ws.length).sum
def stI (w k : Nat) (L : List RO) : List Int := (inR w k L).map fun o => (o.i : Int)
theorem szL_app {A B : List RO} : szL (A ++ B) = szL A + szL B := by unfold szL; rw [List.map_append, List.sum_append]
theorem szL_filter {p : RO → Bool} : ∀ {L : List RO}, szL (L.filter p) ≤ szL L
  | [] => Nat.le_refl _
  | o :: L => by
    have ih := szL_filter (p := p) (L := L)
    unfold szL at ih ⊢
    rw [List.filter_cons]
    split <;> simp only [List.map_cons, List.sum_cons] <;> omega
theorem Ch.sz {ws : List Int} : ∀ {os : List RO} {i T : Nat}, Ch ws i os T → i + szL os = T
  | [], i, T, h => h
  | o :: r, i, T, ⟨h1, h2, h3, h4, h5⟩ => by
    have := Ch.sz h5
    unfold szL at this ⊢
    simp only [List.map_cons, List.sum_cons]
    omega
theorem lvs_next {ms : List Nat} {os : List RO} {j : Nat} {o : RO} (h : os[j]? = some o) : lvs ms (os.take (j + 1)) = lvs ms (os.take j) ++ (if lvB ms o then [o] else []) := by
  unfold lvs
  rw [take_next h, List.filter_append]
  congr 1
  rw [List.filter_cons]
  rfl
theorem lvs_le {ms : List Nat} {os : List RO} {j : Nat} : szL (lvs ms (os.take j)) ≤ szL os := by
  refine Nat.le_trans szL_filter ?_
  conv => rhs; rw [← List.take_append_drop j os]
  rw [szL_app]
  exact Nat.le_add_right _ _
theorem stI_len {w k : Nat} {L : List RO} : (stI w k L).length ≤ L.length := by
  unfold stI inR
  rw [List.length_map]
  exact List.length_filter_le _ _
theorem lvs_len {ms : List Nat} {os : List RO} {j : Nat} : (lvs ms (os.take j)).length ≤ os.length := by
  refine Nat.le_trans (List.length_filter_le _ _) ?_
  rw [List.length_take]
  exact Nat.min_le_right _ _
structure RI (w nR : Nat) (L : List RO) (rs : List RG) (fs : List Int) : Prop where
  rl : rs.length = nR
  fl : fs.length = nR + 1
  rc : ∀ k r, rs[k]? = some r → r.c = stI w k L
  f0 : fs[0]? = some 0
  fc : ∀ k, k < nR → fs[k + 1]? = some (szL (inR w k L) : Int)
theorem RI.new (w nR : Nat) : RI w nR [] (List.replicate nR ⟨[], none, 0⟩) (List.replicate (nR + 1) 0) := by
  refine ⟨by simp, by simp, fun k r h => ?_, by simp, fun k h => ?_⟩
  · rw [List.getElem?_replicate] at h
    split at h
    · injection h with h; subst h; rfl
    · cases h
  · rw [List.getElem?_replicate, if_pos (by omega)]; rfl
theorem inR_app {w k : Nat} {L : List RO} {o : RO} : inR w k (L ++ [o]) = inR w k L ++ (if o.i / w = k then [o] else []) := by
  unfold inR
  rw [List.filter_append]
  congr 1
  by_cases h : o.i / w = k <;> simp [List.filter_cons, h]
theorem RI.step {w nR : Nat} {L : List RO} {rs : List RG} {fs : List Int} (h : RI w nR L rs fs) {o : RO} (hk : o.i / w < nR) {r r' : RG} (hr : rs[o.i / w]? = some r) (hc : r'.c = r.c ++ [(o.i : Int)]) :
    RI w nR (L ++ [o]) (rs.set (o.i / w) r') (fs.set (o.i / w + 1) ((szL (inR w (o.i / w) L) : Int) + (1 + o.ws.length))) := by
  have hrl := h.rl
  have hfl := h.fl
  refine ⟨by simp [h.rl], by simp [h.fl], fun k x hx => ?_, ?_, fun k hkn => ?_⟩
  · rw [List.getElem?_set] at hx
    unfold stI
    rw [inR_app]
    by_cases e : o.i / w = k
    · subst e
      rw [if_pos rfl, if_pos (by omega)] at hx
      injection hx with hx; subst hx
      rw [if_pos rfl, List.map_append, hc, h.rc _ _ hr]
      rfl
    · rw [if_neg e] at hx
      rw [if_neg e, List.append_nil]
      exact h.rc k x hx
  · rw [List.getElem?_set_ne (Nat.succ_ne_zero _)]; exact h.f0
  · rw [List.getElem?_set, inR_app]
    by_cases e : o.i / w = k
    · subst e
      rw [if_pos rfl, if_pos (by omega), if_pos rfl, szL_app]
      congr 1
    · rw [if_neg (by omega), if_neg e, List.append_nil]
      exact h.fc k hkn
structure PI (w nR : Nat) (L : List RO) (q : Nat) (fs : List Int) : Prop where
  fl : fs.length = nR + 1
  fb : ∀ k, k ≤ q → fs[k]? = some (szL (befR w k L) : Int)
  fc : ∀ k, q ≤ k → k < nR → fs[k + 1]? = some (szL (inR w k L) : Int)
theorem befR_next {w k : Nat} : ∀ {L : List RO}, szL (befR w (k + 1) L) = szL (inR w k L) + szL (befR w k L)
  | [] => rfl
  | o :: L => by
    have ih := befR_next (w := w) (k := k) (L := L)
    unfold befR inR szL at ih ⊢
    simp only [List.filter_cons]
    by_cases e : o.i / w = k
    · simp only [e, decide_true, if_true, show k < k + 1 by omega, show ¬ k < k by omega, decide_false, Bool.false_eq_true, if_false, List.map_cons, List.sum_cons]
      omega
    · by_cases e2 : o.i / w < k
      · simp only [e, e2, decide_true, if_true, show o.i / w < k + 1 by omega, decide_false, Bool.false_eq_true, if_false, List.map_cons, List.sum_cons]
        omega
      · simp only [e, e2, show ¬ o.i / w < k + 1 by omega, decide_false, Bool.false_eq_true, if_false]
        omega
theorem befR_zero {w : Nat} {L : List RO} : befR w 0 L = [] := by
  unfold befR
  rw [List.filter_eq_nil_iff]
  intro o _
  simp
theorem RI.sums {w nR : Nat} {L : List RO} {rs : List RG} {fs : List Int} (h : RI w nR L rs fs) : PI w nR L 0 fs := by
  refine ⟨h.fl, fun k hk => ?_, fun k _ hk => h.fc k hk⟩
  obtain rfl : k = 0 := by omega
  rw [befR_zero, h.f0]; rfl
theorem PI.step {w nR q : Nat} {L : List RO} {fs : List Int} (h : PI w nR L q fs) (hq : q < nR) : PI w nR L (q + 1) (fs.set (q + 1) ((szL (inR w q L) : Int) + szL (befR w q L))) := by
  have hfl := h.fl
  refine ⟨by simp [h.fl], fun k hk => ?_, fun k h1 h2 => ?_⟩
  · rw [List.getElem?_set]
    by_cases e : q + 1 = k
    · subst e
      rw [if_pos rfl, if_pos (by omega), befR_next]
      congr 1
    · rw [if_neg e]
      exact h.fb k (by omega)
  · rw [List.getElem?_set_ne (by omega)]
    exact h.fc k (by omega) h2
def firstI (w nR : Nat) (L : List RO) : List Int := (List.range (nR + 1)).map fun k => (szL (befR w k L) : Int)
theorem firstI_at {w nR k : Nat} {L : List RO} (h : k ≤ nR) : (firstI w nR L)[k]? = some (szL (befR w k L) : Int) := by
  unfold firstI
  rw [List.getElem?_map, List.getElem?_range (by omega)]
  rfl
theorem PI.end_ {w nR : Nat} {L : List RO} {fs : List Int} (h : PI w nR L nR fs) : fs = firstI w nR L := by
  refine List.ext_getElem? fun k => ?_
  by_cases hk : k ≤ nR
  · rw [h.fb k hk, firstI_at hk]
  · rw [List.getElem?_eq_none (by rw [h.fl]; omega), List.getElem?_eq_none (by unfold firstI; simp; omega)]
def numR (w T : Nat) : Nat := (T + w - 1) / w
theorem numR_lt {w T i : Nat} (hw : 1 ≤ w) (h : i < T) : i / w < numR w T := by
  unfold numR
  rw [Nat.div_lt_iff_lt_mul hw]
  have h1 := Nat.div_add_mod (T + w - 1) w
  have h2 := Nat.mod_lt (T + w - 1) hw
  rw [Nat.mul_comm] at h1
  omega
theorem befR_all {w T : Nat} {ws : List Int} {os : List RO} (ms : List Nat) (hw : 1 ≤ w) (h : Ch ws 0 os T) : befR w (numR w T) (lvs ms os) = lvs ms os := by
  unfold befR
  rw [List.filter_eq_self]
  intro o ho
  obtain ⟨j, hj⟩ := List.getElem?_of_mem (List.mem_filter.1 ho).1
  have := h.o_lt hj
  exact decide_eq_true (numR_lt hw (by omega))
theorem firstI_len {w nR : Nat} {L : List RO} : (firstI w nR L).length = nR + 1 := by unfold firstI; simp
theorem numR_le {w T : Nat} (h : 1 ≤ w) : numR w T ≤ T := by
  unfold numR
  have : (T + w - 1) / w < T + 1 := by
    rw [Nat.div_lt_iff_lt_mul h]
    have h3 : T + w ≤ (T + 1) * w := by
      have : T * 1 ≤ T * w := Nat.mul_le_mul_left _ h
      rw [Nat.add_mul]
      omega
    omega
  omega
theorem total_of {w T : Nat} {ws : List Int} {os : List RO} (ms : List Nat) (hw : 1 ≤ w) (h : Ch ws 0 os T) : (firstI w (numR w T) (lvs ms os))[numR w T]? = some (szL (lvs ms os) : Int) := by
  rw [firstI_at (Nat.le_refl _), befR_all ms hw h]
open Go.Sep
def widthR (words : Int) : Nat := (min (max words 1) 65536).toNat
theorem widthR_in {x : Int} : 1 ≤ widthR x ∧ widthR x ≤ 65536 := by unfold widthR; omega
abbrev regL (bst bf : Nat) (rs : List RG) (fs : List Int) : List HP := [blk bst (rs.map cellG) 33, GW rs, blk bf (intsV fs) 3]
abbrev regV (w bst bf nR : Nat) : Value := .agg #[.int .i64 w, sl bst nR, sl bf (nR + 1)]
structure RegOk (w T : Nat) (ms : List Nat) (os : List RO) (rs : List RG) : Prop where
  rl : rs.length = numR w T
  rc : ∀ k r, rs[k]? = some r → r.c = stI w k (lvs ms os)
theorem putL_cellG {rs : List RG} {k n : Nat} (r : RG) (h : k < rs.length) (hn : r.c.length = n) : putL (rs.map cellG) k [.slice r.a n r.k] = some ((rs.set k r).map cellG) := by
  subst hn
  rw [putL_split (by simp; omega)]
  congr 1
  rw [List.map_set, List.set_eq_take_append_cons_drop, if_pos (by simpa using h)]
  simp
set_option maxHeartbeats 32000000 in
theorem RegOf_spec {p bw bs n T pm bm : Nat} {ws : List Int} {st : List Bool} {os : List RO} {ms : List Nat} (words : Int) (h64 : In64 words) (h : HT n T ws st) (hc : Ch ws 0 os T) (hM : MI n ms) :
    Does Tryz.prog 148 [ptr p 0, ptr pm 0, .int .i64 words] (heapL p bw bs n ws T st ++ marksL pm bm n ms)
    (fun v l => ∃ w bst bf rs, w = widthR words ∧ RegOk w T ms os rs ∧ v = regV w bst bf (numR w T) ∧ l = heapL p bw bs n ws T st ++ marksL pm bm n ms ++ regL bst bf rs (firstI w (numR w T) (lvs ms os))) := by
  obtain ⟨h641, h642⟩ := h64
  have hwl := h.wl
  have htn := h.tn
  have hnb := h.nb
  have hsz := hc.sz
  refine Does.ofM tiok Tryz.func148 (by kernel_rfl) rfl Tryz.ntmps148 rfl ?_
  intro W fr
  repeat' (first | refine Wka ?_ | intro _ | apply And.intro)
  rename_i b4 b6 b7 _
  obtain ⟨w, hw, hw1, hw2, hww⟩ : ∃ w : Nat, (if 65536 < (if words < 1 then 1 else words) then 65536 else (if words < 1 then 1 else words)) = (w : Int) ∧ 1 ≤ w ∧ w ≤ 65536 ∧ w = widthR words := by
    unfold widthR
    refine ⟨_, ?_, ?_, ?_, rfl⟩
    · split <;> split <;> omega
    · omega
    · omega
  rw [hw]
  obtain ⟨nR, hnR⟩ : ∃ nR, nR = numR w T := ⟨_, rfl⟩
  have hnq : ((T : Int) + w - 1) / w = (nR : Int) := by
    rw [hnR]
    unfold numR
    rw [show (T : Int) + w - 1 = ((T + w - 1 : Nat) : Int) by omega]
    exact (Int.natCast_ediv _ _).symm
  have hnRb : nR ≤ 65536 := by
    rw [hnR]
    unfold numR
    have : (T + w - 1) / w < 65537 := by
      rw [Nat.div_lt_iff_lt_mul hw1]
      have : 65537 * 1 ≤ 65537 * w := Nat.mul_le_mul_left _ hw1
      have h2 : T + w - 1 ≤ 65535 + w := by omega
      have h3 : 65536 + w ≤ 65537 * w := by
        have : 65536 * 1 ≤ 65536 * w := Nat.mul_le_mul_left _ hw1
        omega
      omega
    omega
  have hM0 : Does Tryz.prog 16 [ptr p 0] (heapL p bw bs n ws T st) _ := heapTop
  refine J_drawk [blk b7 [.int .i64 w, .slice none 0 0, .slice none 0 0] 217] (fun H hl => hl.pick (is := [0]) rfl) [0, 2, 0, 5, 0, 0, 0, 5, 0, 0] [0, 2, 3, 6, 7, 1, 4, 5, 8, 9] (by kernel_rfl) (by kernel_rfl) ?_
  repeat' (first | refine Wke ?_ | intro _ | apply And.intro)
  refine JX_lk rfl rfl (OL_call [3, 3, 3] rfl rfl rfl hM0 rfl) rfl rfl ?_ ?_
  · rintro _ _ ⟨_, ⟨rfl, rfl⟩, rfl⟩ H hl
    exact hl.pick (is := [3]) rfl
  rintro _ _ ⟨_, ⟨rfl, rfl⟩, rfl⟩ _
  repeat' (first | refine Wke ?_ | intro _ | apply And.intro)
  rw [hnq]
  repeat' (first | refine Wka ?_ | intro _ | apply And.intro)
  refine JO_l (OL_makeN rfl rfl rfl rfl (by omega) (by omega)) rfl rfl ?_
  rintro _ _ ⟨bst, rfl, rfl⟩
  repeat' (first | refine Wka ?_ | intro _ | apply And.intro)
  rw [show (nR : Int) + 1 = ((nR + 1 : Nat) : Int) by omega]
  refine JO_l (OL_makeN rfl rfl rfl rfl (by omega) (by omega)) rfl rfl ?_
  rintro _ _ ⟨bf, rfl, rfl⟩
  repeat' (first | refine Wka ?_ | intro _ | apply And.intro)
  refine JO_l (OL_call [] rfl rfl rfl (Walk_spec) rfl) rfl rfl ?_; rintro _ _ ⟨_, ⟨bh, rfl, rfl⟩, rfl⟩
  repeat' (first | refine Wka ?_ | intro _ | apply And.intro)
  refine J_rangeFunc (ps := [35, 36]) rfl (fun k d R hrec => ?_)
  let Y : List RG × List Int → List HP := fun s => [pt k (.loop (R .ready none)), pt d (.deferred (some [])), blk b7 [.int .i64 w, sl bst nR, sl bf (nR + 1)] 217, blk bst (s.1.map cellG) 33, GW s.1, blk bf (intsV s.2) 3, blk b4 [ptr pm 0] 110] ++ marksL pm bm n ms ++ [blk b6 [.int .i64 0, .slice none 0 0, .slice none 0 0] 217]
  let Inv : Nat → List RG × List Int → Prop := fun i s => ∃ j, j ≤ os.length ∧ posAt os T j = i ∧ RI w nR (lvs ms (os.take j)) s.1 s.2
  let Stop : List RG × List Int → Prop := fun _ => False
  have hy : ∀ (i : Nat) (x : Int) (s : List RG × List Int), Inv i s → st[i]? = some true → ws[i]? = some x → wordB x = true → i + 1 + (unN x).toNat ≤ T →
      DoesV Tryz.prog (.func (.yield k) #[] #[]) [.int .i64 i, headV (unK x) (unN x) (unP x)] (heapL p bw bs n ws T st ++ Y s)
        (fun v l => (v = .bool true ∧ ∃ s', Inv (i + 1 + (unN x).toNat) s' ∧ l = heapL p bw bs n ws T st ++ Y s') ∨ (v = .bool false ∧ ∃ s', Stop s' ∧ l = heapL p bw bs n ws T st ++ Y s')) := by
    rintro i x ⟨rs, fs⟩ ⟨j, hj, hp, hI⟩ hs hx hg hle
    dsimp only at hI
    have hit := h.lt hs
    have hjl : j < os.length := by
      rcases Nat.lt_or_ge j os.length with e | e
      · exact e
      · obtain rfl : j = os.length := by omega
        rw [posAt_end] at hp; omega
    obtain ⟨o, ho⟩ : ∃ o, os[j]? = some o := ⟨os[j], List.getElem?_eq_getElem _⟩
    have hoi : o.i = i := by rw [← hp, posAt_of ho]
    have hpn := hc.pos ho
    have hat := (hc.at ho).2
    have hxo := hat.2.2.1
    have hob := hc.o_lt ho
    rw [hoi, hx] at hxo
    injection hxo with hxo
    obtain ⟨_, _, u1, u2, u3⟩ := packI_un hat.2.1
    rw [← hxo] at u1 u2 u3
    have hnx := lvs_next (ms := ms) ho
    rw [hoi] at hpn hob
    rw [u1, u2, u3]
    rw [u2] at hle
    refine DoesV.pre (pre := pt k (.loop (R .ready none)) :: (heapL p bw bs n ws T st ++ ([pt d (.deferred (some [])), blk b7 [.int .i64 w, sl bst nR, sl bf (nR + 1)] 217, blk bst (rs.map cellG) 33, GW rs, blk bf (intsV fs) 3, blk b4 [ptr pm 0] 110] ++ marksL pm bm n ms ++ [blk b6 [.int .i64 0, .slice none 0 0, .slice none 0 0] 217]))) ?_ (fun H hl => hl.perm (picks_perm (is := [3]) rfl))
    refine DoesV.yield hrec rfl (by decide) ?_
    intro W fr
    refine J_regs (g' := [(4, ptr b4 0), (7, ptr b7 0), (35, .int .i64 i), (36, headV o.k o.ws.length o.p)]) Sgt ?_
    repeat' (first | refine Wka ?_ | intro _ | apply And.intro)
    rename_i b10 _
    refine At_asg hrec P1 ?_
    repeat' (first | refine Wka ?_ | intro _ | apply And.intro)
    · rename_i h15
      have hlv : lvB ms o = false := by unfold lvB; rw [decide_eq_false (by omega)]; rfl
      rw [hlv] at hnx
      refine At_roundEnd (.inl ⟨rfl, rfl⟩) hrec P0 (l' := heapL p bw bs n ws T st ++ Y (rs, fs)) (fun H hl => (hl.perm (picks_perm (is := [2, 2, 2, 0, 1, 1, 1, 1, 1, 1, 1, 1, 1]) rfl)).left) (.inl ⟨rfl, (rs, fs), ⟨j + 1, hjl, by rw [hpn, Int.toNat_natCast], by rw [hnx]; simpa using hI⟩, rfl⟩)
    · rename_i h15
      refine JO_l (OL_call [11, 11] rfl rfl rfl (Has_in i hM (by omega)) rfl) rfl rfl ?_; rintro _ _ ⟨_, ⟨rfl, rfl⟩, rfl⟩
      cases hb : bitB ms i with
      | false =>
        have hlv : lvB ms o = false := by unfold lvB; rw [hoi, hb, Bool.and_false]
        rw [hlv] at hnx
        repeat' (first | refine Wka ?_ | intro _ | apply And.intro)
        refine At_roundEnd (.inl ⟨rfl, rfl⟩) hrec P2 (l' := heapL p bw bs n ws T st ++ Y (rs, fs)) (fun H hl => (hl.perm (picks_perm (is := [4, 4, 4, 0, 3, 3, 3, 3, 3, 3, 0, 0, 1]) rfl)).left) (.inl ⟨rfl, (rs, fs), ⟨j + 1, hjl, by rw [hpn, Int.toNat_natCast], by rw [hnx]; simpa using hI⟩, rfl⟩)
      | true =>
        have hlv : lvB ms o = true := by unfold lvB; rw [hoi, hb, Bool.and_true]; exact decide_eq_true h15
        rw [hlv] at hnx
        have hkw : (i : Int) / (w : Int) = ((i / w : Nat) : Int) := (Int.natCast_ediv _ _).symm
        have hkn : i / w < nR := by rw [hnR]; exact numR_lt hw1 hit
        have hrl := hI.rl
        have hfl := hI.fl
        have hlen := hc.len
        obtain ⟨q, hq⟩ : ∃ q, q = i / w := ⟨_, rfl⟩
        rw [← hq] at hkw hkn
        obtain ⟨r, hr⟩ : ∃ r, rs[q]? = some r := ⟨rs[q]'(by omega), List.getElem?_eq_getElem _⟩
        have hrc := hI.rc q r hr
        have hrcl : r.c.length ≤ 65536 := by
          have h1 := stI_len (w := w) (k := q) (L := lvs ms (os.take j))
          have h2 := lvs_len (ms := ms) (os := os) (j := j)
          rw [← hrc] at h1
          omega
        have hfq := hI.fc q hkn
        have hszb : szL (inR w q (lvs ms (os.take j))) ≤ 65536 := by
          have h1 : szL (inR w q (lvs ms (os.take j))) ≤ szL (lvs ms (os.take j)) := szL_filter
          have h2 := lvs_le (ms := ms) (os := os) (j := j)
          omega
        repeat' (first | refine Wka ?_ | intro _ | apply And.intro)
        rw [hkw]
        repeat' (first | refine Wka ?_ | intro _ | apply And.intro)
        refine J_hp (l' := rowG r :: GW (rs.eraseIdx q) :: ([blk b7 [.int .i64 w, sl bst nR, sl bf (nR + 1)] 217, blk bst (rs.map cellG) 33, blk bf (intsV fs) 3, pt k (.loop (R .busy none)), blk b10 [.int .i64 o.k, .int .i64 o.ws.length, .int .i64 o.p] 82] ++ heapL p bw bs n ws T st ++ [pt d (.deferred (some [])), blk b4 [ptr pm 0] 110] ++ marksL pm bm n ms ++ [blk b6 [.int .i64 0, .slice none 0 0, .slice none 0 0] 217])) (fun H hl => GW.out hr (hl.pick (is := [10, 8, 8, 8, 2, 2, 2, 2, 2, 2, 2, 0, 0, 0]) rfl)) ?_
        refine J_plan [blk b7 [.int .i64 w, sl bst nR, sl bf (nR + 1)] 217, blk bst (rs.map cellG) 33] (fun H hl => hl.pick (is := [2, 2]) rfl) [0, 5, 0, 0, 5, 0, 0, 5, 0, 2, 2, 0, 6]
          (.q 0 (.q 1 (.q 2 (.q 3 (.q 4 (.q 5 (.q 6 (.q 7 (.q 8 (.l1 9 (.l1 10 (.q 11 (.l1 12 .fin))))))))))))) (by kernel_rfl) (by kernel_rfl) ?_
        repeat' (first | refine Wkf ?_ | intro _ | apply And.intro)
        refine JF_val rfl (OV_idx (off := q) rfl rfl rfl rfl (by omega) (by omega) (by rw [Int.toNat_natCast]; simp)) rfl rfl ?_
        refine JF_kept rfl rfl (OK_load (v := cellG r) rfl rfl Mmt (by rw [List.getElem?_map, hr]; rfl)) rfl rfl ?_
        repeat' (first | refine Wkf ?_ | intro _ | apply And.intro)
        refine JF_l1 (JFO_l rfl (OL_buildSlice (cs := [.int .i64 i]) rfl rfl rfl rfl rfl rfl rfl rfl) rfl rfl (.inr ?_) ?_)
        · rintro _ _ ⟨bb, rfl, rfl⟩ H hl
          exact hl.pick (is := [3, 3]) rfl
        rintro _ _ ⟨bb, rfl, rfl⟩ _
        refine JF_l1 (JFO_l rfl (OL_appendr (m := 1) rfl rfl rfl rfl rfl P1 ((Reads.blk rfl).src (.head _)) rfl rfl (fun _ h => by cases h) (by omega) (by omega) (by decide)) rfl rfl (.inr ?_) ?_)
        · rintro _ _ ⟨ta2, tc2, rfl, rfl⟩ H hl
          exact hl.pick (is := [3, 3]) rfl
        rintro _ _ ⟨ta2, tc2, rfl, rfl⟩ _
        repeat' (first | refine Wkf ?_ | intro _ | apply And.intro)
        refine JF_val rfl (OV_idx (off := q) rfl rfl rfl rfl (by omega) (by omega) (by rw [Int.toNat_natCast]; simp)) rfl rfl ?_
        refine JF_l1 (JFO_l0 rfl (OL_store (i := 4) rfl rfl rfl rfl rfl rfl rfl (putL_cellG ⟨r.c ++ [(i : Int)], ta2, tc2⟩ (by omega) (by simp))) rfl (.inl rfl) ?_)
        rintro _ _ rfl _
        repeat' (first | refine Wkf ?_ | intro _ | apply And.intro)
        obtain ⟨r2, hr2⟩ : ∃ r2 : RG, r2 = ⟨r.c ++ [(i : Int)], ta2, tc2⟩ := ⟨_, rfl⟩
        have hI2 := hI.step (o := o) (by rw [hoi, ← hq]; exact hkn) (r := r) (r' := r2) (by rw [hoi, ← hq]; exact hr) (by rw [hr2, hoi])
        rw [hoi, ← hq] at hI2
        refine At_hp (l' := GW (rs.set q r2) :: ([blk b7 [.int .i64 w, sl bst nR, sl bf (nR + 1)] 217, blk bst ((rs.set q r2).map cellG) 33, blk bf (intsV fs) 3, pt k (.loop (R .busy none)), blk b10 [.int .i64 o.k, .int .i64 o.ws.length, .int .i64 o.p] 82] ++ heapL p bw bs n ws T st ++ [pt d (.deferred (some [])), blk b4 [ptr pm 0] 110] ++ marksL pm bm n ms ++ [blk b6 [.int .i64 0, .slice none 0 0, .slice none 0 0] 217])) (fun H hl => ?_) ?_
        · rw [hr2]
          refine GW.back (by omega) ?_
          have h2 := hl.pick (is := [1, 2, 2, 0, 1, 1, 1, 1, 1, 1, 1, 1, 1, 1, 1]) rfl
          show Stars (rowz 3 1 ta2 (r.c ++ [(i : Int)]).length tc2 (intsV (r.c ++ [(i : Int)])) :: _) H
          rw [List.length_append, show intsV (r.c ++ [(i : Int)]) = intsV r.c ++ [.int .i64 i] from List.map_append]
          exact h2
        repeat' (first | refine Wka ?_ | intro _ | apply And.intro)
        refine J_draw [0, 1, 0, 0, 0, 1, 0, 1, 0, 0, 0, 2] (List.range 12) (by kernel_rfl) (by kernel_rfl) ?_
        repeat' (first | refine Wkd ?_ | intro _ | apply And.intro)
        refine JX_val rfl rfl (OV_idx (off := q + 1) rfl rfl rfl rfl (by omega) (by omega) (by omega)) rfl rfl ?_
        refine JX_q rfl rfl (OQ_load (v := .int .i64 (szL (inR w q (lvs ms (os.take j))) : Nat)) rfl rfl Mmt (by rw [List.getElem?_map, hfq]; rfl)) rfl rfl ?_
        repeat' (first | refine Wkd ?_ | intro _ | apply And.intro)
        refine JX_val rfl rfl (OV_idx (off := q + 1) rfl rfl rfl rfl (by omega) (by omega) (by omega)) rfl rfl ?_
        refine JX_l0 rfl rfl (OL_store (i := 3) rfl rfl rfl rfl rfl rfl rfl (putL_ints _ (by omega))) rfl ?_
        rintro _ _ rfl
        repeat' (first | refine Wkd ?_ | intro _ | apply And.intro)
        repeat' (first | refine Wka ?_ | intro _ | apply And.intro)
        refine At_roundEnd (.inl ⟨rfl, rfl⟩) hrec P4 (l' := heapL p bw bs n ws T st ++ Y (rs.set q r2, fs.set (q + 1) ((szL (inR w q (lvs ms (os.take j))) : Nat) + (1 + (o.ws.length : Int))))) (fun H hl => (hl.perm (picks_perm (is := [6, 6, 6, 0, 5, 2, 2, 1, 0, 1, 1, 1, 1]) rfl)).left) (.inl ⟨rfl, _, ⟨j + 1, hjl, by rw [hpn, Int.toNat_natCast], by rw [hnx]; exact hI2⟩, rfl⟩)
  refine ⟨_, [], _, (fun H hl => ?_), walkGen (bh := bh) (.func (.yield k) #[] #[]) Y Inv Stop h hy (List.replicate nR ⟨[], none, 0⟩, List.replicate (nR + 1) 0) ⟨0, Nat.zero_le _, hc.pos0, RI.new w nR⟩, ?_⟩
  · have h2 := (GW_new nR hl).pick (is := [3, 6, 6, 6, 1, 1, 1, 2, 0, 0, 1, 1, 1, 0]) rfl
    have e1 : (List.replicate nR (⟨[], none, 0⟩ : RG)).map cellG = List.replicate nR (.slice none 0 0) := List.map_replicate
    have e2 : intsV (List.replicate (nR + 1) 0) = List.replicate (nR + 1) (.int .i64 0) := List.map_replicate
    show Stars (blk bh [ptr p 0] 32 :: (heapL p bw bs n ws T st ++ ([pt k (.loop (R .ready none)), pt d (.deferred (some [])), blk b7 [.int .i64 w, sl bst nR, sl bf (nR + 1)] 217, blk bst ((List.replicate nR (⟨[], none, 0⟩ : RG)).map cellG) 33, GW (List.replicate nR ⟨[], none, 0⟩), blk bf (intsV (List.replicate (nR + 1) 0)) 3, blk b4 [ptr pm 0] 110] ++ marksL pm bm n ms ++ [blk b6 [.int .i64 0, .slice none 0 0, .slice none 0 0] 217])) ++ []) H
    rw [e1, e2]
    exact h2
  rintro v l1 ⟨⟨rs, fs⟩, hs, rfl, rfl⟩
  obtain ⟨j, hj, hp, hI⟩ := hs.resolve_right (fun h => h)
  dsimp only at hI
  have hjo : j = os.length := by
    rcases Nat.lt_or_ge j os.length with e | e
    · obtain ⟨o, ho⟩ : ∃ o, os[j]? = some o := ⟨os[j], List.getElem?_eq_getElem _⟩
      rw [posAt_of ho] at hp
      have := hc.o_lt ho
      omega
    · omega
  subst hjo
  rw [List.take_length] at hI
  have hfl := hI.fl
  have hP := hI.sums
  have hRO : RegOk w T ms os rs := ⟨by rw [hI.rl, hnR], hI.rc⟩
  have hszb : szL (lvs ms os) ≤ 65536 := by
    have h2 := lvs_le (ms := ms) (os := os) (j := os.length)
    rw [List.take_length] at h2
    omega
  refine ⟨.ready, none, [pt d (.deferred (some [])), blk b7 [.int .i64 w, sl bst nR, sl bf (nR + 1)] 217, blk bst (rs.map cellG) 33, GW rs, blk bf (intsV fs) 3] ++ heapL p bw bs n ws T st ++ marksL pm bm n ms ++ [blk b4 [ptr pm 0] 110, blk b6 [.int .i64 0, .slice none 0 0, .slice none 0 0] 217], by decide, fun H hl => hl.pick (is := [4, 4, 4, 4, 4, 4, 1, 1, 1, 2, 2, 1, 1]) rfl, fun _ => ?_, fun c hc => by cases hc⟩
  refine At_block_normal ?_
  rw [PThen_D (D' := [⟨.collected d, #[]⟩])]
  refine At_then_normal ?_
  repeat' (first | refine Wka ?_ | intro _ | apply And.intro)
  refine J_loop (α := Nat × List Int) (fun x => x.1 ≤ nR ∧ PI w nR (lvs ms os) x.1 x.2)
    (fun x => [(6, ptr b6 0), (7, ptr b7 0), (73, .int .i64 nR), (74, .int .i64 x.1)])
    (fun x => blk bf (intsV x.2) 3 :: [pt d (.deferred (some [])), blk b7 [.int .i64 w, sl bst nR, sl bf (nR + 1)] 217, blk bst (rs.map cellG) 33, GW rs] ++ heapL p bw bs n ws T st ++ marksL pm bm n ms ++ [blk b6 [.int .i64 0, .slice none 0 0, .slice none 0 0] 217])
    (fun x => nR - x.1) (0, fs) ⟨Nat.zero_le _, hP⟩ Sgt (fun H hl => hl.pick (is := [4, 0, 0, 0, 0, 0, 0, 0, 0, 0, 1]) rfl) ?_
  clear hP hfl hI
  rintro ⟨q, fs⟩ ⟨hq, hP⟩
  dsimp only at hq hP ⊢
  have hfl := hP.fl
  repeat' (first | refine Wkb ?_ | intro _ | apply And.intro)
  · rename_i hlt
    refine J_block ?_
    have h1 := hP.fb q (Nat.le_refl _)
    have h2 := hP.fc q (Nat.le_refl _) (by omega)
    have b1 : szL (befR w q (lvs ms os)) ≤ 65536 := Nat.le_trans szL_filter hszb
    have b2 : szL (inR w q (lvs ms os)) ≤ 65536 := Nat.le_trans szL_filter hszb
    have hP2 := hP.step (by omega)
    repeat' (first | refine Wka ?_ | intro _ | apply And.intro)
    refine J_draw [0, 1, 0, 0, 0, 1, 0, 1, 0, 0, 1, 0, 0, 2] (List.range 14) (by kernel_rfl) (by kernel_rfl) ?_
    repeat' (first | refine Wkd ?_ | intro _ | apply And.intro)
    refine JX_val rfl rfl (OV_idx (off := q + 1) rfl rfl rfl rfl (by omega) (by omega) (by omega)) rfl rfl ?_
    refine JX_q rfl rfl (OQ_load (v := .int .i64 (szL (inR w q (lvs ms os)) : Nat)) rfl rfl Mmt (by rw [List.getElem?_map, h2]; rfl)) rfl rfl ?_
    repeat' (first | refine Wkd ?_ | intro _ | apply And.intro)
    refine JX_val rfl rfl (OV_idx (off := q) rfl rfl rfl rfl (by omega) (by omega) (by omega)) rfl rfl ?_
    refine JX_q rfl rfl (OQ_load (v := .int .i64 (szL (befR w q (lvs ms os)) : Nat)) rfl rfl Mmt (by rw [List.getElem?_map, h1]; rfl)) rfl rfl ?_
    repeat' (first | refine Wkd ?_ | intro _ | apply And.intro)
    refine JX_val rfl rfl (OV_idx (off := q + 1) rfl rfl rfl rfl (by omega) (by omega) (by omega)) rfl rfl ?_
    refine JX_l0 rfl rfl (OL_store (i := 0) rfl rfl rfl rfl rfl rfl rfl (putL_ints _ (by omega))) rfl ?_
    rintro _ _ rfl
    repeat' (first | refine Wkd ?_ | intro _ | apply And.intro)
    repeat' (first | refine Wka ?_ | intro _ | apply And.intro)
    exact At_round (q + 1, _) (by show nR - (q + 1) < nR - q; omega) ⟨by show q + 1 ≤ nR; omega, hP2⟩ Sgt (fun H hl => hl)
  obtain rfl : q = nR := by omega
  have hfe := hP.end_
  subst hfe
  repeat' (first | refine Wka ?_ | intro _ | apply And.intro)
  refine JO_l0 (OL_store (i := 10) rfl rfl rfl rfl rfl rfl rfl (by rfl)) rfl ?_
  rintro _ _ rfl
  repeat' (first | refine Wka ?_ | intro _ | apply And.intro)
  refine At_retM rfl P2 (.agg rfl rfl rfl Mmt rfl .nil) rfl (fun H hl => hl.pick (is := [5, 5, 5, 5, 5, 3, 3, 1]) rfl) ⟨w, bst, bf, rs, hww, hRO, ?_, ?_⟩
  · rw [← hnR]; rfl
  · rw [← hnR]; rfl
open Go.Sep
theorem RegLen_spec {w bst bf nR : Nat} : Does Tryz.prog 108 [regV w bst bf nR] [] (fun v l => v = .int .i64 nR ∧ l = []) := by
  refine Does.of tiok Tryz.func108 (by kernel_rfl) rfl Tryz.ntmps108 rfl ?_
  intro W fr
  repeat' (first | refine Wka ?_ | intro _ | apply And.intro)
  exact At_ret rfl rfl (.tmp rfl .nil) rfl (is := []) rfl ⟨rfl, rfl⟩
theorem RegAt_spec {w bst bf nR : Nat} (i : Nat) (hi : i ≤ 1000000000) (h1 : 1 ≤ w) (h2 : w ≤ 65536) : Does Tryz.prog 130 [regV w bst bf nR, .int .i64 i] [] (fun v l => v = .int .i64 (i / w : Nat) ∧ l = []) := by
  refine Does.of tiok Tryz.func130 (by kernel_rfl) rfl Tryz.ntmps130 rfl ?_
  intro W fr
  repeat' (first | refine Wka ?_ | intro _ | apply And.intro)
  exact At_ret rfl rfl (.tmp rfl .nil) rfl (is := []) rfl ⟨by rw [Int.natCast_ediv]; rfl, rfl⟩
section ops
variable {w bst bf nR : Nat} {fs : List Int}
theorem RegFirst_spec (k : Nat) {x : Int} (hk : fs[k]? = some x) (hl : fs.length = nR + 1) (hn : nR ≤ 65536) : Does Tryz.prog 131 [regV w bst bf nR, .int .i64 k] [blk bf (intsV fs) 3] (fun v l => v = .int .i64 x ∧ l = [blk bf (intsV fs) 3]) := by
  have hkl := (List.getElem?_eq_some_iff.1 hk).1
  refine Does.of tiok Tryz.func131 (by kernel_rfl) rfl Tryz.ntmps131 rfl ?_
  intro W fr
  repeat' (first | refine Wka ?_ | intro _ | apply And.intro)
  refine JO_val (OV_idx (off := k) rfl rfl rfl rfl (by omega) (by omega) (by simp)) rfl rfl ?_
  refine JO_q (OQ_load (v := .int .i64 x) rfl rfl Mmt (by rw [List.getElem?_map, hk]; rfl)) rfl rfl ?_
  repeat' (first | refine Wka ?_ | intro _ | apply And.intro)
  exact At_ret rfl rfl (.tmp rfl .nil) rfl (is := [1]) rfl ⟨rfl, rfl⟩
theorem RegTotal_spec {x : Int} (hk : fs[nR]? = some x) (hl : fs.length = nR + 1) (hn : nR ≤ 65536) : Does Tryz.prog 111 [regV w bst bf nR] [blk bf (intsV fs) 3] (fun v l => v = .int .i64 x ∧ l = [blk bf (intsV fs) 3]) := by
  refine Does.of tiok Tryz.func111 (by kernel_rfl) rfl Tryz.ntmps111 rfl ?_
  intro W fr
  repeat' (first | refine Wka ?_ | intro _ | apply And.intro)
  refine JO_val (OV_idx (off := nR) rfl rfl rfl rfl (by omega) (by omega) (by omega)) rfl rfl ?_
  refine JO_q (OQ_load (v := .int .i64 x) rfl rfl Mmt (by rw [List.getElem?_map, hk]; rfl)) rfl rfl ?_
  repeat' (first | refine Wka ?_ | intro _ | apply And.intro)
  exact At_ret rfl rfl (.tmp rfl .nil) rfl (is := [1]) rfl ⟨rfl, rfl⟩
theorem RegLive_spec (k : Nat) {x y : Int} (hk : fs[k]? = some x) (hk1 : fs[k + 1]? = some y) (hl : fs.length = nR + 1) (hn : nR ≤ 65536) (hx : 0 ≤ x ∧ x ≤ 65536) (hy : 0 ≤ y ∧ y ≤ 65536) : Does Tryz.prog 171 [regV w bst bf nR, .int .i64 k] [blk bf (intsV fs) 3] (fun v l => v = .int .i64 (y - x) ∧ l = [blk bf (intsV fs) 3]) := by
  have hkl := (List.getElem?_eq_some_iff.1 hk1).1
  refine Does.of tiok Tryz.func171 (by kernel_rfl) rfl Tryz.ntmps171 rfl ?_
  intro W fr
  repeat' (first | refine Wka ?_ | intro _ | apply And.intro)
  refine J_draw [0, 1, 0, 0, 0, 1, 0, 1, 0, 0, 1, 0, 0] (List.range 13) (by kernel_rfl) (by kernel_rfl) ?_
  repeat' (first | refine Wkd ?_ | intro _ | apply And.intro)
  refine JX_val rfl rfl (OV_idx (off := k + 1) rfl rfl rfl rfl (by omega) (by omega) (by omega)) rfl rfl ?_
  refine JX_q rfl rfl (OQ_load (v := .int .i64 y) rfl rfl Mmt (by rw [List.getElem?_map, hk1]; rfl)) rfl rfl ?_
  repeat' (first | refine Wkd ?_ | intro _ | apply And.intro)
  refine JX_val rfl rfl (OV_idx (off := k) rfl rfl rfl rfl (by omega) (by omega) (by omega)) rfl rfl ?_
  refine JX_q rfl rfl (OQ_load (v := .int .i64 x) rfl rfl Mmt (by rw [List.getElem?_map, hk]; rfl)) rfl rfl ?_
  repeat' (first | refine Wkd ?_ | intro _ | apply And.intro)
  repeat' (first | refine Wka ?_ | intro _ | apply And.intro)
  exact At_ret rfl rfl (.tmp rfl .nil) rfl (is := [1]) rfl ⟨rfl, rfl⟩
theorem RegStays_spec {rs : List RG} (k : Nat) {r : RG} (hk : rs[k]? = some r) (hl : rs.length = nR) (hn : nR ≤ 65536) (hc : r.c.length ≤ 65536) : Does Tryz.prog 132 [regV w bst bf nR, .int .i64 k] [blk bst (rs.map cellG) 33, GW rs]
    (fun v l => ∃ a cap, (a = none → r.c.length = 0 ∧ cap = 0) ∧ v = .slice a r.c.length cap ∧ l = [row 3 1 a r.c.length cap (intsV r.c), blk bst (rs.map cellG) 33, GW rs]) := by
  have hkl := (List.getElem?_eq_some_iff.1 hk).1
  refine Does.of tiok Tryz.func132 (by kernel_rfl) rfl Tryz.ntmps132 rfl ?_
  intro W fr
  refine J_fact _ (fun w hs => GW_ok hs Mmt) ?_
  intro ok
  have hR := GW.reads (List.mem_of_getElem? hk) ok
  repeat' (first | refine Wka ?_ | intro _ | apply And.intro)
  refine JO_val (OV_idx (off := k) rfl rfl rfl rfl (by omega) (by omega) (by simp)) rfl rfl ?_
  refine JO_q (OQ_load (v := cellG r) rfl rfl Mmt (by rw [List.getElem?_map, hk]; rfl)) rfl rfl ?_
  refine JO_l (OL_call [2] rfl rfl rfl (CloneI_spec hR (plainL_ints _) (by omega)) rfl) rfl rfl ?_; rintro _ _ ⟨_, ⟨a', c', hn', rfl, rfl⟩, rfl⟩
  repeat' (first | refine Wka ?_ | intro _ | apply And.intro)
  exact At_ret rfl rfl (.tmp rfl .nil) rfl (is := [0, 2, 0]) rfl ⟨a', c', hn', rfl, rfl⟩
end ops
open Go.Sep
structure RF (w nR : Nat) (L : List RO) (rs : List RG) (fs : List Int) : Prop where
  w1 : 1 ≤ w
  w2 : w ≤ 65536
  nb : nR ≤ 65536
  rl : rs.length = nR
  fl : fs.length = nR + 1
  fb : ∀ k, k ≤ nR → fs[k]? = some (szL (befR w k L) : Int)
  rc : ∀ k r, rs[k]? = some r → r.c = stI w k L
  tot : fs[nR]? = some (szL L : Int)
  lim : szL L ≤ 65536
  len : L.length ≤ 65536
theorem RF.of {words : Int} {n w T : Nat} {ws : List Int} {st : List Bool} {os : List RO} {ms : List Nat} {rs : List RG} (h : HT n T ws st) (hc : Ch ws 0 os T) (hw : w = widthR words) (hR : RegOk w T ms os rs) : RF w (numR w T) (lvs ms os) rs (firstI w (numR w T) (lvs ms os)) := by
  have hw1 : 1 ≤ w ∧ w ≤ 65536 := by rw [hw]; exact widthR_in
  have htn := h.tn
  have hnb := h.nb
  have hn1 := numR_le (T := T) hw1.1
  have hs := hc.sz
  have hl := hc.len
  have h2 := lvs_le (ms := ms) (os := os) (j := os.length)
  have h3 := lvs_len (ms := ms) (os := os) (j := os.length)
  rw [List.take_length] at h2 h3
  exact ⟨hw1.1, hw1.2, by omega, hR.rl, firstI_len, fun k hk => firstI_at hk, hR.rc, total_of ms hw1.1 hc, by omega, by omega⟩
theorem Ch.ge {ws : List Int} {T : Nat} : ∀ {l : List RO} {i : Nat}, Ch ws i l T → ∀ x ∈ l, i ≤ x.i
  | [], _, _, x, hx => by cases hx
  | y :: l, i, ⟨k1, k2, k3, k4, k5⟩, x, hx => by
    rcases List.mem_cons.1 hx with rfl | hx
    · omega
    · have := Ch.ge k5 x hx
      omega
theorem split_at {α : Type} {l : List α} {j : Nat} {o : α} (h : l[j]? = some o) : l = l.take j ++ o :: l.drop (j + 1) := by
  have hlt := (List.getElem?_eq_some_iff.1 h).1
  conv => lhs; rw [← List.take_append_drop j l]
  rw [List.drop_eq_getElem_cons hlt]
  rw [List.getElem?_eq_getElem hlt] at h
  injection h with h
  rw [h]
section facts
variable {w nR : Nat} {L : List RO} {rs : List RG} {fs : List Int}
theorem RF.clen (h : RF w nR L rs fs) {k : Nat} {r : RG} (hr : rs[k]? = some r) : r.c.length ≤ 65536 := by
  rw [h.rc k r hr]
  have := stI_len (w := w) (k := k) (L := L)
  have := h.len
  omega
theorem RF.bef (h : RF w nR L rs fs) (k : Nat) : szL (befR w k L) ≤ 65536 := Nat.le_trans szL_filter h.lim
theorem RF.live (h : RF w nR L rs fs) {k : Nat} (hk : k < nR) : fs[k + 1]? = some ((szL (inR w k L) : Int) + szL (befR w k L)) := by
  rw [h.fb (k + 1) hk, befR_next]
  rfl
theorem len_le_sz : ∀ {L : List RO}, L.length ≤ szL L
  | [] => Nat.le_refl _
  | o :: L => by
    have := len_le_sz (L := L)
    unfold szL at this ⊢
    simp only [List.length_cons, List.map_cons, List.sum_cons]
    omega
end facts
end Go.Proofs.YtfmkjbmogfhpbaaGreatDoor

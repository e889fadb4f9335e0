import Derived.Test.YtbbpcbjgekencaaGreatDoorM3
import Derived.LoopIn
import Derived.LoopNIn
import Derived.Outline
import Derived.OwnWalkIn
import Derived.RangeFuncBound
import Derived.RangeFuncBox
import Derived.RangeFuncCalls
import Derived.RangeFuncLeaves
import Derived.RangeFuncNested
import Derived.Shelf.Abstract
import Derived.Shelf.RegionOpen
import Derived.TacticsInMore
section
set_option linter.unusedVariables false
set_option linter.unusedSimpArgs false
set_option linter.unusedVariables false
set_option linter.unusedSimpArgs false
set_option maxRecDepth 100000
noncomputable section
namespace Go.Proofs.YtbbpcbjgekencaaGreatDoor.FT
open Go Go.Proofs.YtbbpcbjgekencaaGreatDoor Go.Proofs.YtbbpcbjgekencaaGreatDoor.Ev Go.Proofs.YtbbpcbjgekencaaGreatDoor.Q
open Go.IntKind (i64 u64 u32)
variable (g : List (Nat × Nat × Value))
def r10_Live.f (k : Nat) (a0_0 a0_1 a0_2 a0_3 a0_4 a1 : Int) : Option Bool := ((r10_power.f k a1).bind fun y0 => (if y0 = 0 then none else (some ((u64.wrap (a0_4.tdiv y0)).tmod 2 == 1))))
def r10_Live.o : FnOk (Tg g) Tryz.prog := mkO (tab_ok g) 56 Tryz.func56 [r10_power.o g] [] [ta [qI, qI, qI, qI, qU], tc qI] [] (tc qB) [] r10_Live.f []
mutual
def r11_Blocks.c5 : Nat → Int → List S114 → List S61 → Option (List S61)
 | 0, _, _, _ => none
 | k + 1, a, b, c => (if decide (a < (b.length : Int)) = true then (if 0 ≤ a then (if a < (b.length : Int) then (if a.toNat < b.length then (if ((b.getD a.toNat z114).f0 == 2) = true then (if 0 ≤ a then (if a < (b.length : Int) then (if a.toNat < b.length then (if c.length + [S61.mk a 0 (i64.wrap (32 * (b.getD a.toNat z114).f3))].length ≤ big then (r11_Blocks.c9 k (a) (b) (c ++ [S61.mk a 0 (i64.wrap (32 * (b.getD a.toNat z114).f3))])) else none) else none) else none) else none) else (r11_Blocks.c9 k (a) (b) (c))) else none) else none) else none) else (some (c)))
def r11_Blocks.c9 : Nat → Int → List S114 → List S61 → Option (List S61)
 | 0, _, _, _ => none
 | k + 1, a, b, c => (r11_Blocks.c12 k (a) (0) (b) (c))
def r11_Blocks.c12 : Nat → Int → Int → List S114 → List S61 → Option (List S61)
 | 0, _, _, _, _ => none
 | k + 1, a, b, c, d => (if 0 ≤ a then (if a < (c.length : Int) then (if a.toNat < c.length then (if ((c.getD a.toNat z114).f0 == 1) = true then (if 0 ≤ a then (if a < (c.length : Int) then (if a.toNat < c.length then ((r09_Many.f k (c.getD a.toNat z114).f1).bind fun y1 => (if decide (b < y1) = true then (if 0 ≤ a then (if a < (c.length : Int) then (if a.toNat < c.length then ((r10_Live.f k (c.getD a.toNat z114).f0 (c.getD a.toNat z114).f1 (c.getD a.toNat z114).f2 (c.getD a.toNat z114).f3 (c.getD a.toNat z114).f4 b).bind fun y2 => (if y2 = true then (if 0 ≤ a then (if a < (c.length : Int) then (if a.toNat < c.length then ((r09_Block.f k (c.getD a.toNat z114).f1).bind fun y3 => (if d.length + [S61.mk a b y3].length ≤ big then (r11_Blocks.c15 k (a) (b) (c) (d ++ [S61.mk a b y3])) else none)) else none) else none) else none) else (r11_Blocks.c15 k (a) (b) (c) (d)))) else none) else none) else none) else (r11_Blocks.c5 k (i64.wrap (a + 1)) (c) (d)))) else none) else none) else none) else (r11_Blocks.c5 k (i64.wrap (a + 1)) (c) (d))) else none) else none) else none)
def r11_Blocks.c15 : Nat → Int → Int → List S114 → List S61 → Option (List S61)
 | 0, _, _, _, _ => none
 | k + 1, a, b, c, d => (r11_Blocks.c12 k (a) (i64.wrap (b + 1)) (c) (d))
end
def r11_Blocks.f (k : Nat) (a0 : List Int) : Option (List S61) := ((r11_Chunks.f k a0).bind fun y0 => (r11_Blocks.c5 k (0) (y0.snd) ([])))
def r11_Blocks.o : FnOk (Tg g) Tryz.prog := mkO (tab_ok g) 23 Tryz.func23 [r11_Chunks.o g, r09_Many.o g, r10_Live.o g, r09_Block.o g] [] [tc (qf 33)] [] (tc (qo 0)) [(0, qr 61)] r11_Blocks.f [mkC (List S61) 5 75 [(3, tc (qo 0)), (5, tc (qo 1)), (6, tc qI)] [(0, qr 114), (1, qr 61)] 0 [0, 1, 2] r11_Blocks.c5, mkC (List S61) 9 75 [(3, tc (qo 0)), (5, tc (qo 1)), (6, tc qI)] [(0, qr 114), (1, qr 61)] 0 [0, 1, 2] r11_Blocks.c9, mkC (List S61) 12 75 [(3, tc (qo 0)), (5, tc (qo 1)), (6, tc qI), (7, tc qI)] [(0, qr 114), (1, qr 61)] 0 [0, 1, 2, 3] r11_Blocks.c12, mkC (List S61) 15 75 [(3, tc (qo 0)), (5, tc (qo 1)), (6, tc qI), (7, tc qI), (44, tc qI), (45, tc (qo 0)), (46, tc qI), (47, tc (.rowp 0 114 0 0)), (48, tc (.rowp 0 114 0 1)), (49, tc qI), (50, tc qI), (51, tc qB)] [(0, qr 114), (1, qr 61)] 0 [0, 1, 9, 10] r11_Blocks.c15]
def r16_one.f (k : Nat) (a0 : List Int) (a1 : Int) : Option Int := (if ((a0.length : Int) == 0) = true then (some (0)) else (if (a0.length : Int) = 0 then none else (if 0 ≤ a1.tmod (a0.length : Int) then (if a1.tmod (a0.length : Int) < (a0.length : Int) then (some (i64.wrap (a0.getD (a1.tmod (a0.length : Int)).toNat 0))) else none) else none)))
def r16_one.o : FnOk (Tg g) Tryz.prog := mkO (tab_ok g) 29 Tryz.func29 [] [] [tc (qf 5), tc qI] [] (tc qI) [] r16_one.f []
def r16_Place.f (k : Nat) (a0_0 a0_1 a1_0 a1_1 a1_2 : Int) : Option Int := ((r05_Chunk.f k a0_0 a0_1 a1_0).bind fun y0 => (some (i64.wrap (y0.fst + i64.wrap (a1_2 * a1_1)))))
def r16_Place.o : FnOk (Tg g) Tryz.prog := mkO (tab_ok g) 27 Tryz.func27 [r05_Chunk.o g] [] [ta [qI, qI], ta [qI, qI, qI]] [] (tc qI) [] r16_Place.f []
def r08_Right.f (k : Nat) (a0_0 a0_1 a0_2 : Int) : Option Bool := (if decide (a0_0 > 0) = true then (if decide (a0_0 < 65536) = true then (if decide (a0_1 ≥ 0) = true then (if decide (a0_1 ≤ 4096) = true then (some (decide (a0_2 > 0))) else (some (false))) else (some (false))) else (some (false))) else (some (false)))
def r08_Right.o : FnOk (Tg g) Tryz.prog := mkO (tab_ok g) 61 Tryz.func61 [] [] [ta [qI, qI, qU]] [] (tc qB) [] r08_Right.f []
def r08_Encode.f (k : Nat) (a0_0 a0_1 a0_2 : Int) : Option (Int × List Int) := ((r08_Right.f k a0_0 a0_1 a0_2).bind fun y0 => (if (!y0) = true then (some (1, [])) else (some (0, [u64.wrap (u64.wrap (18038886832455811072 + u64.wrap (65536 * u64.wrap a0_1)) + u64.wrap a0_0), a0_2]))))
def r08_Encode.o : FnOk (Tg g) Tryz.prog := mkO (tab_ok g) 30 Tryz.func30 [r08_Right.o g] [] [ta [qI, qI, qU]] [] (.tup [.cell (qo 0), .cell qI]) [(0, qr 33)] r08_Encode.f []
mutual
def r16_Stocked.c4 : Nat → Int → Int → Int → List Int → List Int → List Int → Int → Int → List Int → List Int → Option (List Int)
 | 0, _, _, _, _, _, _, _, _, _, _ => none
 | k + 1, a, b, c, d, e, g, h, i, j, l => (if decide (a < (d.length : Int)) = true then (if 0 ≤ a then (if a < (d.length : Int) then (if (Int.tmod (d.getD a.toNat 0) 6 != 5) = true then (if 0 ≤ a then (if a < (d.length : Int) then (if l.length + [d.getD a.toNat 0].length ≤ big then (r16_Stocked.c7 k (a) (b) (c) (d) (e) (g) (h) (i) (j) (l ++ [d.getD a.toNat 0])) else none) else none) else none) else (r16_Stocked.c7 k (a) (b) (c) (d) (e) (g) (h) (i) (j) (l))) else none) else none) else ((r15_Make.f k b c l j [] 0 (u64.wrap h) []).bind fun y0 => ((r15_Geometry.f k b c l j [] 0 (u64.wrap h) []).bind fun y1 => ((r05_Table.f k y1.fst y1.snd).bind fun y2 => ((r15_Part.f k y0 y2.fst y2.snd).bind fun y3 => ((r11_Blocks.f k y3).bind fun y4 => (r16_Stocked.c15 k (0) (e) (g) (h) (i) (y0) (y1.fst) (y1.snd) (y4))))))))
def r16_Stocked.c7 : Nat → Int → Int → Int → List Int → List Int → List Int → Int → Int → List Int → List Int → Option (List Int)
 | 0, _, _, _, _, _, _, _, _, _, _ => none
 | k + 1, a, b, c, d, e, g, h, i, j, l => (r16_Stocked.c4 k (i64.wrap (a + 1)) (b) (c) (d) (e) (g) (h) (i) (j) (l))
def r16_Stocked.c15 : Nat → Int → List Int → List Int → Int → Int → List Int → Int → Int → List S61 → Option (List Int)
 | 0, _, _, _, _, _, _, _, _, _ => none
 | k + 1, a, b, c, d, e, g, h, i, j => (if decide (a < (j.length : Int)) = true then (if 0 ≤ a then (if a < (j.length : Int) then (if a.toNat < j.length then (if ((j.getD a.toNat z61).f2 == 4) = true then ((r16_one.f k c a).bind fun y5 => (r16_Stocked.c21 k (a) (i64.wrap (i64.wrap ((j.getD a.toNat z61).f2 - 2) - y5.tmod 3)) (b) (c) (d) (e) (g) (h) (i) (j) ((j.getD a.toNat z61).f0) ((j.getD a.toNat z61).f1) ((j.getD a.toNat z61).f2))) else (r16_Stocked.c21 k (a) (i64.wrap ((j.getD a.toNat z61).f2 - 2)) (b) (c) (d) (e) (g) (h) (i) (j) ((j.getD a.toNat z61).f0) ((j.getD a.toNat z61).f1) ((j.getD a.toNat z61).f2))) else none) else none) else none) else (some (g)))
def r16_Stocked.c21 : Nat → Int → Int → List Int → List Int → Int → Int → List Int → Int → Int → List S61 → Int → Int → Int → Option (List Int)
 | 0, _, _, _, _, _, _, _, _, _, _, _, _, _ => none
 | k + 1, a, b, c, d, e, g, h, i, j, l, m, n, o => (if (o == 8) = true then ((r16_one.f k d a).bind fun y6 => (r16_Stocked.c23 k (a) (i64.wrap (b - y6.tmod 4)) (c) (d) (e) (g) (h) (i) (j) (l) (m) (n) (o))) else (r16_Stocked.c23 k (a) (b) (c) (d) (e) (g) (h) (i) (j) (l) (m) (n) (o)))
def r16_Stocked.c23 : Nat → Int → Int → List Int → List Int → Int → Int → List Int → Int → Int → List S61 → Int → Int → Int → Option (List Int)
 | 0, _, _, _, _, _, _, _, _, _, _, _, _, _ => none
 | k + 1, a, b, c, d, e, g, h, i, j, l, m, n, o => (if (o == 16) = true then ((r16_one.f k d a).bind fun y7 => (r16_Stocked.c25 k (a) (i64.wrap (b - y7.tmod 8)) (c) (d) (e) (g) (h) (i) (j) (l) (m) (n) (o))) else (r16_Stocked.c25 k (a) (b) (c) (d) (e) (g) (h) (i) (j) (l) (m) (n) (o)))
def r16_Stocked.c25 : Nat → Int → Int → List Int → List Int → Int → Int → List Int → Int → Int → List S61 → Int → Int → Int → Option (List Int)
 | 0, _, _, _, _, _, _, _, _, _, _, _, _, _ => none
 | k + 1, a, b, c, d, e, g, h, i, j, l, m, n, o => (if decide (o ≥ 32) = true then ((r16_one.f k d a).bind fun y8 => (r16_Stocked.c27 k (a) (i64.wrap (b - y8.tmod 16)) (c) (d) (e) (g) (h) (i) (j) (l) (m) (n) (o))) else (r16_Stocked.c27 k (a) (b) (c) (d) (e) (g) (h) (i) (j) (l) (m) (n) (o)))
def r16_Stocked.c27 : Nat → Int → Int → List Int → List Int → Int → Int → List Int → Int → Int → List S61 → Int → Int → Int → Option (List Int)
 | 0, _, _, _, _, _, _, _, _, _, _, _, _, _ => none
 | k + 1, a, b, c, d, e, g, h, i, j, l, m, n, o => ((r16_Place.f k i j m n o).bind fun y9 => ((r16_one.f k c a).bind fun y10 => ((r08_Encode.f k (i64.wrap (1 + y10)) b (u64.wrap (u64.wrap (4294967296 * u64.wrap e) + u64.wrap (i64.wrap (a + 1))))).bind fun y11 => (if 0 < (y11.snd.length : Int) then (if Int.toNat 0 < y11.snd.length then (if 0 ≤ y9 then (if y9 < (h.length : Int) then (if y9.toNat < h.length then (if 1 < (y11.snd.length : Int) then (if Int.toNat 1 < y11.snd.length then (if 0 ≤ i64.wrap (y9 + 1) then (if i64.wrap (y9 + 1) < ((h.set y9.toNat (y11.snd.getD (Int.toNat 0) 0)).length : Int) then (if (i64.wrap (y9 + 1)).toNat < (h.set y9.toNat (y11.snd.getD (Int.toNat 0) 0)).length then (if (i64.wrap g == i64.wrap (a + 1)) = true then (if 8 < (((h.set y9.toNat (y11.snd.getD (Int.toNat 0) 0)).set (i64.wrap (y9 + 1)).toNat (y11.snd.getD (Int.toNat 1) 0)).length : Int) then (if Int.toNat 8 < ((h.set y9.toNat (y11.snd.getD (Int.toNat 0) 0)).set (i64.wrap (y9 + 1)).toNat (y11.snd.getD (Int.toNat 1) 0)).length then (r16_Stocked.c18 k (a) (c) (d) (e) (g) (((h.set y9.toNat (y11.snd.getD (Int.toNat 0) 0)).set (i64.wrap (y9 + 1)).toNat (y11.snd.getD (Int.toNat 1) 0)).set (Int.toNat 8) (u64.wrap y9)) (i) (j) (l)) else none) else none) else (r16_Stocked.c18 k (a) (c) (d) (e) (g) ((h.set y9.toNat (y11.snd.getD (Int.toNat 0) 0)).set (i64.wrap (y9 + 1)).toNat (y11.snd.getD (Int.toNat 1) 0)) (i) (j) (l))) else none) else none) else none) else none) else none) else none) else none) else none) else none) else none))))
def r16_Stocked.c18 : Nat → Int → List Int → List Int → Int → Int → List Int → Int → Int → List S61 → Option (List Int)
 | 0, _, _, _, _, _, _, _, _, _ => none
 | k + 1, a, b, c, d, e, g, h, i, j => (r16_Stocked.c15 k (i64.wrap (a + 1)) (b) (c) (d) (e) (g) (h) (i) (j))
end
def r16_Stocked.f (k : Nat) (a0_0 a0_1 : Int) (a0_2 a0_3 a0_4 : List Int) (a0_5 a0_6 : Int) (a0_7 : List Int) : Option (List Int) := (r16_Stocked.c4 k (0) (a0_0) (a0_1) (a0_2) (a0_3) (a0_4) (a0_5) (a0_6) (a0_7) ([]))
def r16_Stocked.o : FnOk (Tg g) Tryz.prog := mkO (tab_ok g) 12 Tryz.func12 [r15_Make.o g, r15_Geometry.o g, r11_Blocks.o g, r15_Part.o g, r05_Table.o g, r16_one.o g, r16_Place.o g, r08_Encode.o g] [] [ta [qY, qY, (qf 32), (qf 5), (qf 5), qW, qY, (qf 33)]] [] (tc (qo 0)) [(0, qr 33)] r16_Stocked.f [mkC (List Int) 4 156 [(1, tc (qb 0)), (3, tc (qo 1)), (4, tc qI)] [(0, .box 27 [qY, qY, qf 32, qf 5, qf 5, qW, qY, qf 33]), (1, qr 32)] 0 [0, 1, 2, 3, 4, 5, 6, 7, 8, 9] r16_Stocked.c4, mkC (List Int) 7 156 [(1, tc (qb 0)), (3, tc (qo 1)), (4, tc qI)] [(0, .box 27 [qY, qY, qf 32, qf 5, qf 5, qW, qY, qf 33]), (1, qr 32)] 0 [0, 1, 2, 3, 4, 5, 6, 7, 8, 9] r16_Stocked.c7, mkC (List Int) 15 156 [(1, tc (qb 0)), (6, tc (qo 1)), (7, tc (qb 2)), (8, tc (qo 3)), (9, tc qI)] [(0, .box 27 [qY, qY, qf 32, qf 5, qf 5, qW, qY, qf 33]), (1, qr 33), (2, .box 51 [qI, qI]), (3, qr 61)] 0 [0, 4, 5, 6, 7, 9, 10, 11, 12] r16_Stocked.c15, mkC (List Int) 21 156 [(1, tc (qb 0)), (6, tc (qo 1)), (7, tc (qb 2)), (8, tc (qo 3)), (9, tc qI), (10, tc (qb 4)), (11, tc qI)] [(0, .box 27 [qY, qY, qf 32, qf 5, qf 5, qW, qY, qf 33]), (1, qr 33), (2, .box 51 [qI, qI]), (3, qr 61), (4, .box 61 [qI, qI, qI])] 0 [0, 1, 5, 6, 7, 8, 10, 11, 12, 13, 14, 15, 16] r16_Stocked.c21, mkC (List Int) 23 156 [(1, tc (qb 0)), (6, tc (qo 1)), (7, tc (qb 2)), (8, tc (qo 3)), (9, tc qI), (10, tc (qb 4)), (11, tc qI)] [(0, .box 27 [qY, qY, qf 32, qf 5, qf 5, qW, qY, qf 33]), (1, qr 33), (2, .box 51 [qI, qI]), (3, qr 61), (4, .box 61 [qI, qI, qI])] 0 [0, 1, 5, 6, 7, 8, 10, 11, 12, 13, 14, 15, 16] r16_Stocked.c23, mkC (List Int) 25 156 [(1, tc (qb 0)), (6, tc (qo 1)), (7, tc (qb 2)), (8, tc (qo 3)), (9, tc qI), (10, tc (qb 4)), (11, tc qI)] [(0, .box 27 [qY, qY, qf 32, qf 5, qf 5, qW, qY, qf 33]), (1, qr 33), (2, .box 51 [qI, qI]), (3, qr 61), (4, .box 61 [qI, qI, qI])] 0 [0, 1, 5, 6, 7, 8, 10, 11, 12, 13, 14, 15, 16] r16_Stocked.c25, mkC (List Int) 27 156 [(1, tc (qb 0)), (6, tc (qo 1)), (7, tc (qb 2)), (8, tc (qo 3)), (9, tc qI), (10, tc (qb 4)), (11, tc qI)] [(0, .box 27 [qY, qY, qf 32, qf 5, qf 5, qW, qY, qf 33]), (1, qr 33), (2, .box 51 [qI, qI]), (3, qr 61), (4, .box 61 [qI, qI, qI])] 0 [0, 1, 5, 6, 7, 8, 10, 11, 12, 13, 14, 15, 16] r16_Stocked.c27, mkC (List Int) 18 156 [(1, tc (qb 0)), (6, tc (qo 1)), (7, tc (qb 2)), (8, tc (qo 3)), (9, tc qI)] [(0, .box 27 [qY, qY, qf 32, qf 5, qf 5, qW, qY, qf 33]), (1, qr 33), (2, .box 51 [qI, qI]), (3, qr 61)] 0 [0, 4, 5, 6, 7, 9, 10, 11, 12] r16_Stocked.c18]
end Go.Proofs.YtbbpcbjgekencaaGreatDoor.FT
end
section
set_option linter.unusedVariables false
set_option linter.unusedSimpArgs false
set_option linter.unusedVariables false
set_option linter.unusedSimpArgs false
namespace Go.Proofs.YtbbpcbjgekencaaGreatDoor.H
open Go Go.RowKit Go.Proofs.YtbbpcbjgekencaaGreatDoorW.PrintWords Go.Proofs.YtbbpcbjgekencaaGreatDoorW.PrintLast Go.Proofs.YtbbpcbjgekencaaGreatDoorW.PrintMore Go.Proofs.YtbbpcbjgekencaaGreatDoor.Q
attribute [local go_sem] max2_int min2_int max_two min_two max_three min_three max_four min_four
noncomputable def blockW (c : Int) : Int := if c = 0 then 4 else if c = 1 then 8 else if c = 2 then 16 else 0
noncomputable def class_Block.f (a0 : Int) : Option Int := some (blockW a0)
set_option maxHeartbeats 1000000 in
theorem class_Block.calls (a0 : Int) (r : Int) (w : World) (h : class_Block.f a0 = some r) :
  CallsG 97 #[.int .i64 a0] w fun e w' => e = .returned (.int .i64 r) ∧ Drawn0 w w' := by
 rintro ⟨g0, g1, g2⟩
 cases h
 by_cases h1 : a0 < 0
 ·have e : blockW a0 = 0 := by unfold blockW; rw [if_neg (by omega), if_neg (by omega), if_neg (by omega)]
  rw [e]; clear e g0 g1 g2
  go_enter Tryz.func97, Tryz.ntmps97
  go_wp2
  go_ret
  exact ⟨rfl, Drawn0.refl _⟩
 ·by_cases h2 : 3 ≤ a0
  ·have e : blockW a0 = 0 := by unfold blockW; rw [if_neg (by omega), if_neg (by omega), if_neg (by omega)]
   rw [e]; clear e g0 g1 g2
   go_enter Tryz.func97, Tryz.ntmps97
   go_wp2
   go_ret
   exact ⟨rfl, Drawn0.refl _⟩
  ·rcases (show a0 = 0 ∨ a0 = 1 ∨ a0 = 2 by omega) with rfl | rfl | rfl
   all_goals
    clear h1 h2
    go_enter Tryz.func97, Tryz.ntmps97
    go_wp2
    go_ret
    exact ⟨rfl, Drawn0.refl _⟩
end Go.Proofs.YtbbpcbjgekencaaGreatDoor.H
end
section
set_option linter.unusedVariables false
set_option linter.unusedSimpArgs false
set_option linter.unusedVariables false
set_option linter.unusedSimpArgs false
namespace Go.Proofs.YtbbpcbjgekencaaGreatDoor.H
open Go Go.RowKit Go.Proofs.YtbbpcbjgekencaaGreatDoorW.PrintWords Go.Proofs.YtbbpcbjgekencaaGreatDoorW.PrintLast Go.Proofs.YtbbpcbjgekencaaGreatDoorW.PrintMore Go.Proofs.YtbbpcbjgekencaaGreatDoor.Q
attribute [local go_sem] max2_int min2_int max_two min_two max_three min_three max_four min_four
noncomputable def manyW (c : Int) : Int := if c = 0 then 8 else if c = 1 then 4 else if c = 2 then 2 else 0
noncomputable def class_Many.f (a0 : Int) : Option Int := some (manyW a0)
set_option maxHeartbeats 1000000 in
theorem class_Many.calls (a0 : Int) (r : Int) (w : World) (h : class_Many.f a0 = some r) :
  CallsG 96 #[.int .i64 a0] w fun e w' => e = .returned (.int .i64 r) ∧ Drawn0 w w' := by
 intro HG0_
 have HG := Aside0.mk HG0_
 clear HG0_
 cases h
 by_cases h0 : a0 = 0 ∨ a0 = 1 ∨ a0 = 2
 ·rcases h0 with rfl | rfl | rfl
  ·go_enter Tryz.func96, Tryz.ntmps96
   go_wp2_with (go_at_call 97; (with_reducible refine (class_Block.calls 0 4 _ rfl).mono ?_); rintro e w' ⟨rfl, ⟨nd, rfl⟩⟩)
   go_ret
   exact ⟨rfl, ⟨nd, rfl⟩⟩
  ·go_enter Tryz.func96, Tryz.ntmps96
   go_wp2_with (go_at_call 97; (with_reducible refine (class_Block.calls 1 8 _ rfl).mono ?_); rintro e w' ⟨rfl, ⟨nd, rfl⟩⟩)
   go_ret
   exact ⟨rfl, ⟨nd, rfl⟩⟩
  ·go_enter Tryz.func96, Tryz.ntmps96
   go_wp2_with (go_at_call 97; (with_reducible refine (class_Block.calls 2 16 _ rfl).mono ?_); rintro e w' ⟨rfl, ⟨nd, rfl⟩⟩)
   go_ret
   exact ⟨rfl, ⟨nd, rfl⟩⟩
 ·have e1 : blockW a0 = 0 := by unfold blockW; rw [if_neg (by omega), if_neg (by omega), if_neg (by omega)]
  have e2 : manyW a0 = 0 := by unfold manyW; rw [if_neg (by omega), if_neg (by omega), if_neg (by omega)]
  rw [e2]
  clear e2 h0
  have hb := fun W => class_Block.calls a0 0 W (by show some (blockW a0) = some 0; rw [e1])
  have HBL := Aside0.mk hb
  clear e1 hb
  go_enter Tryz.func96, Tryz.ntmps96
  go_wp2_with (go_at_call 97; (with_reducible refine (HBL.out _).mono ?_); rintro e w' ⟨rfl, ⟨nd, rfl⟩⟩)
  go_ret
  exact ⟨rfl, ⟨nd, rfl⟩⟩
end Go.Proofs.YtbbpcbjgekencaaGreatDoor.H
end
section
set_option linter.unusedVariables false
set_option linter.unusedSimpArgs false
set_option linter.unusedVariables false
set_option linter.unusedSimpArgs false
namespace Go.Proofs.YtbbpcbjgekencaaGreatDoor.H
open Go Go.RowKit Go.Proofs.YtbbpcbjgekencaaGreatDoorW.PrintWords Go.Proofs.YtbbpcbjgekencaaGreatDoorW.PrintLast Go.Proofs.YtbbpcbjgekencaaGreatDoorW.PrintMore Go.Proofs.YtbbpcbjgekencaaGreatDoor.Q
attribute [local go_sem] max2_int min2_int max_two min_two max_three min_three max_four min_four
noncomputable def KeepT (n₀ t : Nat) (W W' : World) : Prop := Below n₀ W W' ∧ ∀ (k : Nat) (cs : Array Value) (fr : Nat × Nat), W.heap[k]? = some (Obj.cells cs t fr) → W'.heap[k]? = some (Obj.cells cs t fr)
theorem KeepT.trans {n₀ t : Nat} {A B C : World} (h : KeepT n₀ t A B) (k : KeepT n₀ t B C) : KeepT n₀ t A C := ⟨h.1.trans k.1, fun i cs fr hi => k.2 i cs fr (h.2 i cs fr hi)⟩
theorem KeepT.put {n₀ t : Nat} {w : World} (hn : n₀ ≤ w.heap.size) (W : World) (l : Nat) (o o' : Obj) (hl : w.heap.size ≤ l) (h : W.heap[l]? = some o) (hc : o.isCells = false) (hw : o.isWalk = false) : KeepT n₀ t W (W.putObj l o') :=
 ⟨belowK_b hn W l o o' hl h hc hw, fun k cs fr hk => by
  by_cases e : k = l
  ·subst e; rw [hk] at h; cases h; cases hc
  ·exact ((grownBy_putObj' W l o').block k (Array.getElem?_eq_some_iff.1 hk).1 (fun e' => e (by cases e'; rfl))).trans hk⟩
theorem keepT_appended {W w1 : World} {n₀ B b : Nat} {t t' e : TypeId} {size k : Nat} {v v' : Value} {xs : List Value} {tmp : Obj} (hv : Boxed W B t' v) (ht : t' ≠ t) (hrow : W.ownsRow b e size v k xs) (he : e ≠ t)
  (hg : (W.alloc tmp).grownBy w1 v.ownBlock) (hb : Below n₀ W (w1.setCell ⟨B, 0, none⟩ v')) : KeepT n₀ t W (w1.setCell ⟨B, 0, none⟩ v') := by
 refine ⟨hb, fun i cs fr hi => ?_⟩
 have hlt := (Array.getElem?_eq_some_iff.1 hi).1
 have h1 : (W.alloc tmp).heap[i]? = some (Obj.cells cs t fr) := (Below.heap_alloc W tmp i hlt).trans hi
 have h2 : w1.heap[i]? = some (Obj.cells cs t fr) := by
  refine (hg.block i (by simp; omega) (fun e' => ?_)).trans h1
  obtain ⟨cells, hc⟩ := own_typed hrow i e'.symm
  rw [hi] at hc; injection hc with hc; injection hc with _ h3; exact he h3.symm
 refine (Below.heap_setCell w1 ⟨B, 0, none⟩ v' i (fun e' => ?_)).trans h2
 subst e'
 rw [show W.heap[i]? = _ from hv] at hi; injection hi with hi; injection hi with _ h3; exact ht h3
theorem below_grown {W W' : World} (h : Below W.heap.size W W') : W.grownBy W' none := ⟨h.os, h.tape, h.output, h.size, fun k hk _ => h.block k hk⟩
theorem KeepT.of_below {n₀ t : Nat} {W W' : World} (h : Below W.heap.size W W') (hn : n₀ ≤ W.heap.size) : KeepT n₀ t W W' := ⟨h.mono hn, fun k _ _ hk => (h.block k (Array.getElem?_eq_some_iff.1 hk).1).trans hk⟩
end Go.Proofs.YtbbpcbjgekencaaGreatDoor.H
end
section
set_option linter.unusedVariables false
set_option linter.unusedSimpArgs false
set_option linter.unusedVariables false
set_option linter.unusedSimpArgs false
set_option maxRecDepth 100000
noncomputable section
namespace Go.Proofs.YtbbpcbjgekencaaGreatDoor.FT
open Go Go.Proofs.YtbbpcbjgekencaaGreatDoor Go.Proofs.YtbbpcbjgekencaaGreatDoor.Ev Go.Proofs.YtbbpcbjgekencaaGreatDoor.Q
open Go.IntKind (i64 u64 u32)
variable (g : List (Nat × Nat × Value))
noncomputable def class_Many.f (k : Nat) (a0 : Int) : Option (Int) := H.class_Many.f a0
noncomputable def class_Many.F : EvForm Γ := mkF [] [tc qI] [] (tc qI) [] class_Many.f
theorem class_Many.ok : CallOk T Tryz.prog 96 class_Many.F.fn := by
 refine hand_ok Tryz.func96 (by kernel_rfl) (by kernel_rfl) _ rfl (fun k ats r hf E A w vals hv hg => ?_) (tab_ok gl0)
 have hf : class_Many.f k (aI ats 0) = some r := hf
 unfold class_Many.f at hf
 generalize hx0 : (aI ats 0) = x0 at hf
 have hv : ConcAs T E (SB T w (Ev.Own (T := T) E []) A E [] w) w [.t (.cell (.c (.int .i64 x0)))] vals := by subst hx0; have := hv; exact this
 obtain ⟨u0, _, rfl, h0, hv1⟩ := concAs_uncons hv
 obtain rfl := conc_c (concA_cell h0)
 obtain rfl := concAs_unnil hv1
 have hc := H.class_Many.calls x0 r w  hf
 have hc := hc (H.gl_of hg)
 refine hc.mono fun e w' h => ?_
 obtain ⟨rfl, hb⟩ := h
 exact ⟨_, E, rfl, hb.below, ofValue_conc _ _ rfl, memOk_nil, fun q h => absurd h own_none⟩
noncomputable def class_Many.o : FnOk T Tryz.prog := ⟨96, class_Many.F, class_Many.ok⟩
end Go.Proofs.YtbbpcbjgekencaaGreatDoor.FT
end
section
set_option linter.unusedVariables false
set_option linter.unusedSimpArgs false
set_option linter.unusedVariables false
set_option linter.unusedSimpArgs false
set_option maxRecDepth 100000
noncomputable section
namespace Go.Proofs.YtbbpcbjgekencaaGreatDoor.FT
open Go Go.Proofs.YtbbpcbjgekencaaGreatDoor Go.Proofs.YtbbpcbjgekencaaGreatDoor.Ev Go.Proofs.YtbbpcbjgekencaaGreatDoor.Q
open Go.IntKind (i64 u64 u32)
variable (g : List (Nat × Nat × Value))
def chunk_kinds.f (k : Nat)  : Option (Int × Int) := (some (0, 3))
def chunk_kinds.o : FnOk (Tg g) Tryz.prog := mkO (tab_ok g) 124 Tryz.func124 [] [] [] [] (ta [qI, qI]) [] chunk_kinds.f []
def chunk_classes.f (k : Nat)  : Option (Int × Int) := (some (3, 2))
def chunk_classes.o : FnOk (Tg g) Tryz.prog := mkO (tab_ok g) 126 Tryz.func126 [] [] [] [] (ta [qI, qI]) [] chunk_classes.f []
def chunk_lanes.f (k : Nat)  : Option (Int × Int) := (some (5, 6))
def chunk_lanes.o : FnOk (Tg g) Tryz.prog := mkO (tab_ok g) 127 Tryz.func127 [] [] [] [] (ta [qI, qI]) [] chunk_lanes.f []
def chunk_manys.f (k : Nat)  : Option (Int × Int) := (some (11, 13))
def chunk_manys.o : FnOk (Tg g) Tryz.prog := mkO (tab_ok g) 128 Tryz.func128 [] [] [] [] (ta [qI, qI]) [] chunk_manys.f []
def chunk_bits.f (k : Nat)  : Option (Int × Int) := (some (24, 8))
def chunk_bits.o : FnOk (Tg g) Tryz.prog := mkO (tab_ok g) 129 Tryz.func129 [] [] [] [] (ta [qI, qI]) [] chunk_bits.f []
def field_Fits.f (k : Nat) (a0 a1 : Int) : Option Bool := (if decide (a0 ≥ 0) = true then (if decide (a0 < 64) = true then (if decide (a1 ≥ 1) = true then (some (decide (a1 ≤ i64.wrap (64 - a0)))) else (some (false))) else (some (false))) else (some (false)))
def field_Fits.o : FnOk (Tg g) Tryz.prog := mkO (tab_ok g) 115 Tryz.func115 [] [] [tc qI, tc qI] [] (tc qB) [] field_Fits.f []
def field_mask.f (k : Nat) (a0 : Int) : Option Int := (if i64.wrap (64 - a0) < 0 then none else (some (Int.fdiv 18446744073709551615 (2 ^ min (i64.wrap (64 - a0)).toNat 64))))
def field_mask.o : FnOk (Tg g) Tryz.prog := mkO (tab_ok g) 116 Tryz.func116 [] [] [tc qI] [] (tc qU) [] field_mask.f []
def field_Get.f (k : Nat) (a0 a1 a2 : Int) : Option Int := ((field_Fits.f k a1 a2).bind fun y0 => (if (!y0) = true then (some (0)) else (if a1 < 0 then none else ((field_mask.f k a2).bind fun y1 => (some (bits BinOp.and IntKind.u64 (a0.fdiv (2 ^ min a1.toNat 64)) y1))))))
def field_Get.o : FnOk (Tg g) Tryz.prog := mkO (tab_ok g) 99 Tryz.func99 [field_Fits.o g, field_mask.o g] [] [tc qU, tc qI, tc qI] [] (tc qU) [] field_Get.f []
def chunk_place_get.f (k : Nat) (a0_0 a0_1 a1 : Int) : Option Int := ((field_Get.f k a1 a0_0 a0_1).bind fun y0 => (some (y0)))
def chunk_place_get.o : FnOk (Tg g) Tryz.prog := mkO (tab_ok g) 125 Tryz.func125 [field_Get.o g] [] [ta [qI, qI], tc qU] [] (tc qU) [] chunk_place_get.f []
def chunk_right.f (k : Nat) (a0_0 a0_1 a0_2 a0_3 a0_4 : Int) : Option Bool := (if (a0_0 == 1) = true then (if decide (a0_1 ≥ 0) = true then (if decide (a0_1 < 3) = true then ((class_Many.f k a0_1).bind fun y0 => (if y0 < 0 then none else (some (decide (a0_4 < u64.wrap (1 * 2 ^ min (y0).toNat IntKind.u64.bits)))))) else (some (false))) else (some (false))) else (if (a0_0 == 2) = true then (if decide (a0_3 ≥ 1) = true then (some (decide (a0_3 ≤ 8191))) else (some (false))) else (if (a0_0 == 4) = true then (if decide (a0_2 ≥ 0) = true then (if decide (a0_2 < 64) = true then (if decide (a0_3 ≥ 0) = true then (some (decide (a0_3 < 8))) else (some (false))) else (some (false))) else (some (false))) else (if (a0_0 == 0) = false then (some (a0_0 == 3)) else (some (true))))))
def chunk_right.o : FnOk T Tryz.prog := mkO (tab_ok gl0) 136 Tryz.func136 [class_Many.o] [] [ta [qI, qI, qI, qI, qU]] [] (tc qB) [] chunk_right.f []
def chunk_own.f (k : Nat) (a0_0 a0_1 a0_2 a0_3 a0_4 : Int) : Option (Int × Int × Int × Int × Int) := (if (a0_0 == 1) = true then (some (a0_0, a0_1, 0, 0, a0_4)) else (if (a0_0 == 2) = true then (some (a0_0, 0, 0, a0_3, 0)) else (if (a0_0 == 4) = true then (some (a0_0, 0, a0_2, a0_3, 0)) else (some (a0_0, 0, 0, 0, 0)))))
def chunk_own.o : FnOk (Tg g) Tryz.prog := mkO (tab_ok g) 137 Tryz.func137 [] [] [ta [qI, qI, qI, qI, qU]] [] (ta [qI, qI, qI, qI, qU]) [] chunk_own.f []
def chunk_Right.f (k : Nat) (a0_0 a0_1 a0_2 a0_3 a0_4 : Int) : Option Bool := ((chunk_right.f k a0_0 a0_1 a0_2 a0_3 a0_4).bind fun y0 => (if y0 = true then ((chunk_own.f k a0_0 a0_1 a0_2 a0_3 a0_4).bind fun y1 => (some (y1.fst == a0_0 && (y1.snd.fst == a0_1 && (y1.snd.snd.fst == a0_2 && (y1.snd.snd.snd.fst == a0_3 && y1.snd.snd.snd.snd == a0_4)))))) else (some (false))))
def chunk_Right.o : FnOk T Tryz.prog := mkO (tab_ok gl0) 130 Tryz.func130 [chunk_right.o, chunk_own.o gl0] [] [ta [qI, qI, qI, qI, qU]] [] (tc qB) [] chunk_Right.f []
def field_Put.f (k : Nat) (a0 a1 a2 a3 : Int) : Option Int := ((field_Fits.f k a1 a2).bind fun y0 => (if (!y0) = true then (some (a0)) else ((field_mask.f k a2).bind fun y1 => (if a1 < 0 then none else (if a1 < 0 then none else (some (bits BinOp.or IntKind.u64 (bits BinOp.andNot IntKind.u64 a0 (u64.wrap (y1 * 2 ^ min a1.toNat 64))) (bits BinOp.and IntKind.u64 (u64.wrap (a3 * 2 ^ min a1.toNat 64)) (u64.wrap (y1 * 2 ^ min a1.toNat 64))))))))))
def field_Put.o : FnOk (Tg g) Tryz.prog := mkO (tab_ok g) 117 Tryz.func117 [field_Fits.o g, field_mask.o g] [] [tc qU, tc qI, tc qI, tc qU] [] (tc qU) [] field_Put.f []
def chunk_place_put.f (k : Nat) (a0_0 a0_1 a1 a2 : Int) : Option Int := ((field_Put.f k a1 a0_0 a0_1 a2).bind fun y0 => (some (y0)))
def chunk_place_put.o : FnOk (Tg g) Tryz.prog := mkO (tab_ok g) 138 Tryz.func138 [field_Put.o g] [] [ta [qI, qI], tc qU, tc qU] [] (tc qU) [] chunk_place_put.f []
end Go.Proofs.YtbbpcbjgekencaaGreatDoor.FT
end
section
set_option linter.unusedVariables false
set_option linter.unusedSimpArgs false
set_option linter.unusedVariables false
set_option linter.unusedSimpArgs false
set_option maxRecDepth 100000
namespace Go.Proofs.YtbbpcbjgekencaaGreatDoor.H
open Go Go.RowKit Go.Proofs.YtbbpcbjgekencaaGreatDoorW.PrintWords Go.Proofs.YtbbpcbjgekencaaGreatDoor Go.Proofs.YtbbpcbjgekencaaGreatDoor.Q
noncomputable def chunk_place_put.f (a0_0 : Int) (a0_1 : Int) (a1 : Int) (a2 : Int) : Option (Int) := FT.chunk_place_put.f 100 a0_0 a0_1 a1 a2
theorem chunk_place_put.calls (a0_0 : Int) (a0_1 : Int) (a1 : Int) (a2 : Int) (r : Int) (w : World)  (h : chunk_place_put.f a0_0 a0_1 a1 a2 = some r) :
  Calls Tryz.prog 138 #[.agg #[.int .i64 a0_0, .int .i64 a0_1], .int .u64 a1, .int .u64 a2] w fun e w' => e = .returned (.int .u64 r) ∧ Below w.heap.size w w' := by
 unfold chunk_place_put.f at h
 have hq := h
 refine (Ev.ok_calls (FT.chunk_place_put.o []).ok (k := 100) (ats := [.int a0_0, .int a0_1, .int a1, .int a2]) hq (xs := [.t (.agg [.c (.int .i64 a0_0), .c (.int .i64 a0_1)]), .t (.cell (.c (.int .u64 a1))), .t (.cell (.c (.int .u64 a2)))]) rfl rfl (vals := #[.agg #[.int .i64 a0_0, .int .i64 a0_1], .int .u64 a1, .int .u64 a2]) (.cons (.t (.agg (Ev.concL_cons (.c _) (Ev.concL_cons (.c _) Ev.concL_nil)))) (.cons (.t (.cell (.c _))) (.cons (.t (.cell (.c _))) .nil))) (fun x hx => by cases hx)).mono ?_
 rintro e w' ⟨x, E', rfl, hL⟩
 rw [Ev.left_value hL rfl]
 exact ⟨rfl, Ev.left_below hL⟩
end Go.Proofs.YtbbpcbjgekencaaGreatDoor.H
end
section
set_option linter.unusedVariables false
set_option linter.unusedSimpArgs false
set_option linter.unusedVariables false
set_option linter.unusedSimpArgs false
set_option maxRecDepth 100000
namespace Go.Proofs.YtbbpcbjgekencaaGreatDoor.H
open Go Go.RowKit Go.Proofs.YtbbpcbjgekencaaGreatDoorW.PrintWords Go.Proofs.YtbbpcbjgekencaaGreatDoor Go.Proofs.YtbbpcbjgekencaaGreatDoor.Q
noncomputable def chunk_kinds.f  : Option (Int × Int) := FT.chunk_kinds.f 100 
theorem chunk_kinds.calls  (r1 : Int) (r2 : Int) (w : World)  (h : chunk_kinds.f  = some (r1, r2)) :
  Calls Tryz.prog 124 #[] w fun e w' => e = .returned (.agg #[.int .i64 r1, .int .i64 r2]) ∧ Below w.heap.size w w' := by
 unfold chunk_kinds.f at h
 have hq := h
 refine (Ev.ok_calls (FT.chunk_kinds.o []).ok (k := 100) (ats := []) hq (xs := []) rfl rfl (vals := #[]) .nil (fun x hx => by cases hx)).mono ?_
 rintro e w' ⟨x, E', rfl, hL⟩
 rw [Ev.left_value hL rfl]
 exact ⟨rfl, Ev.left_below hL⟩
end Go.Proofs.YtbbpcbjgekencaaGreatDoor.H
end
section
set_option linter.unusedVariables false
set_option linter.unusedSimpArgs false
set_option linter.unusedVariables false
set_option linter.unusedSimpArgs false
set_option maxRecDepth 100000
namespace Go.Proofs.YtbbpcbjgekencaaGreatDoor.H
open Go Go.RowKit Go.Proofs.YtbbpcbjgekencaaGreatDoorW.PrintWords Go.Proofs.YtbbpcbjgekencaaGreatDoor Go.Proofs.YtbbpcbjgekencaaGreatDoor.Q
noncomputable def chunk_classes.f  : Option (Int × Int) := FT.chunk_classes.f 100 
theorem chunk_classes.calls  (r1 : Int) (r2 : Int) (w : World)  (h : chunk_classes.f  = some (r1, r2)) :
  Calls Tryz.prog 126 #[] w fun e w' => e = .returned (.agg #[.int .i64 r1, .int .i64 r2]) ∧ Below w.heap.size w w' := by
 unfold chunk_classes.f at h
 have hq := h
 refine (Ev.ok_calls (FT.chunk_classes.o []).ok (k := 100) (ats := []) hq (xs := []) rfl rfl (vals := #[]) .nil (fun x hx => by cases hx)).mono ?_
 rintro e w' ⟨x, E', rfl, hL⟩
 rw [Ev.left_value hL rfl]
 exact ⟨rfl, Ev.left_below hL⟩
end Go.Proofs.YtbbpcbjgekencaaGreatDoor.H
end
section
set_option linter.unusedVariables false
set_option linter.unusedSimpArgs false
set_option linter.unusedVariables false
set_option linter.unusedSimpArgs false
set_option maxRecDepth 100000
namespace Go.Proofs.YtbbpcbjgekencaaGreatDoor.H
open Go Go.RowKit Go.Proofs.YtbbpcbjgekencaaGreatDoorW.PrintWords Go.Proofs.YtbbpcbjgekencaaGreatDoor Go.Proofs.YtbbpcbjgekencaaGreatDoor.Q
noncomputable def chunk_lanes.f  : Option (Int × Int) := FT.chunk_lanes.f 100 
theorem chunk_lanes.calls  (r1 : Int) (r2 : Int) (w : World)  (h : chunk_lanes.f  = some (r1, r2)) :
  Calls Tryz.prog 127 #[] w fun e w' => e = .returned (.agg #[.int .i64 r1, .int .i64 r2]) ∧ Below w.heap.size w w' := by
 unfold chunk_lanes.f at h
 have hq := h
 refine (Ev.ok_calls (FT.chunk_lanes.o []).ok (k := 100) (ats := []) hq (xs := []) rfl rfl (vals := #[]) .nil (fun x hx => by cases hx)).mono ?_
 rintro e w' ⟨x, E', rfl, hL⟩
 rw [Ev.left_value hL rfl]
 exact ⟨rfl, Ev.left_below hL⟩
end Go.Proofs.YtbbpcbjgekencaaGreatDoor.H
end
section
set_option linter.unusedVariables false
set_option linter.unusedSimpArgs false
set_option linter.unusedVariables false
set_option linter.unusedSimpArgs false
set_option maxRecDepth 100000
namespace Go.Proofs.YtbbpcbjgekencaaGreatDoor.H
open Go Go.RowKit Go.Proofs.YtbbpcbjgekencaaGreatDoorW.PrintWords Go.Proofs.YtbbpcbjgekencaaGreatDoor Go.Proofs.YtbbpcbjgekencaaGreatDoor.Q
noncomputable def chunk_manys.f  : Option (Int × Int) := FT.chunk_manys.f 100 
theorem chunk_manys.calls  (r1 : Int) (r2 : Int) (w : World)  (h : chunk_manys.f  = some (r1, r2)) :
  Calls Tryz.prog 128 #[] w fun e w' => e = .returned (.agg #[.int .i64 r1, .int .i64 r2]) ∧ Below w.heap.size w w' := by
 unfold chunk_manys.f at h
 have hq := h
 refine (Ev.ok_calls (FT.chunk_manys.o []).ok (k := 100) (ats := []) hq (xs := []) rfl rfl (vals := #[]) .nil (fun x hx => by cases hx)).mono ?_
 rintro e w' ⟨x, E', rfl, hL⟩
 rw [Ev.left_value hL rfl]
 exact ⟨rfl, Ev.left_below hL⟩
end Go.Proofs.YtbbpcbjgekencaaGreatDoor.H
end
section
set_option linter.unusedVariables false
set_option linter.unusedSimpArgs false
set_option linter.unusedVariables false
set_option linter.unusedSimpArgs false
set_option maxRecDepth 100000
namespace Go.Proofs.YtbbpcbjgekencaaGreatDoor.H
open Go Go.RowKit Go.Proofs.YtbbpcbjgekencaaGreatDoorW.PrintWords Go.Proofs.YtbbpcbjgekencaaGreatDoor Go.Proofs.YtbbpcbjgekencaaGreatDoor.Q
noncomputable def chunk_bits.f  : Option (Int × Int) := FT.chunk_bits.f 100 
theorem chunk_bits.calls  (r1 : Int) (r2 : Int) (w : World)  (h : chunk_bits.f  = some (r1, r2)) :
  Calls Tryz.prog 129 #[] w fun e w' => e = .returned (.agg #[.int .i64 r1, .int .i64 r2]) ∧ Below w.heap.size w w' := by
 unfold chunk_bits.f at h
 have hq := h
 refine (Ev.ok_calls (FT.chunk_bits.o []).ok (k := 100) (ats := []) hq (xs := []) rfl rfl (vals := #[]) .nil (fun x hx => by cases hx)).mono ?_
 rintro e w' ⟨x, E', rfl, hL⟩
 rw [Ev.left_value hL rfl]
 exact ⟨rfl, Ev.left_below hL⟩
end Go.Proofs.YtbbpcbjgekencaaGreatDoor.H
end

import Derived.Test.YtbbpcbjgekencaaGreatDoorM9
section
set_option linter.unusedVariables false
set_option linter.unusedSimpArgs false
set_option linter.unusedVariables false
set_option linter.unusedSimpArgs false
set_option maxRecDepth 100000
noncomputable section
namespace Go.Proofs.YtbbpcbjgekencaaGreatDoor.FT
open Go Go.Proofs.YtbbpcbjgekencaaGreatDoor Go.Proofs.YtbbpcbjgekencaaGreatDoor.Ev Go.Proofs.YtbbpcbjgekencaaGreatDoor.Q
open Go.IntKind (i64 u64 u32)
variable (g : List (Nat × Nat × Value))
def oid_Name.f (k : Nat) (a0 a1_0 a1_1 a1_2 : Int) : Option (Int × Int × Int) := (some (a0, a1_0, a1_2))
def oid_Name.o : FnOk (Tg g) Tryz.prog := mkO (tab_ok g) 41 Tryz.func41 [] [] [tc qI, ta [qI, qI, qU]] [] (ta [qI, qI, qU]) [] oid_Name.f []
def sound_Objects.c8 : Nat → Int → Int → List Int → Int → Int → List S64 → List S61 → Option (List S64)
 | 0, _, _, _, _, _, _, _ => none
 | k + 1, a, b, c, d, e, g, h => (if decide (b < a) = true then (if 0 ≤ b then (if b < (h.length : Int) then (if b.toNat < h.length then ((sound_pool_header.f k c d e (h.getD b.toNat z61).f0 (h.getD b.toNat z61).f1 (h.getD b.toNat z61).f2).bind fun y3 => ((sound_Place.f k d e (h.getD b.toNat z61).f0 (h.getD b.toNat z61).f1 (h.getD b.toNat z61).f2).bind fun y4 => (if 0 ≤ i64.wrap (y4 + 2) then (if i64.wrap (y4 + 2) ≤ (c.length : Int) then (if (c.length : Int) ≤ (c.length : Int) then (if 0 ≤ y3.snd.fst then (if y3.snd.fst ≤ ((List.drop (i64.wrap (y4 + 2)).toNat (List.take (c.length : Int).toNat c)).length : Int) then ((oid_Name.f k y4 y3.fst y3.snd.fst y3.snd.snd.fst).bind fun y5 => (if 0 + (List.drop (Int.toNat 0) (List.take y3.snd.fst.toNat (List.drop (i64.wrap (y4 + 2)).toNat (List.take (c.length : Int).toNat c)))).length ≤ big then (if g.length + [S64.mk (S42.mk y5.fst y5.snd.fst y5.snd.snd) ([] ++ List.drop (Int.toNat 0) (List.take y3.snd.fst.toNat (List.drop (i64.wrap (y4 + 2)).toNat (List.take (c.length : Int).toNat c))))].length ≤ big then (sound_Objects.c8 k (a) (i64.wrap (b + 1)) (c) (d) (e) (g ++ [S64.mk (S42.mk y5.fst y5.snd.fst y5.snd.snd) ([] ++ List.drop (Int.toNat 0) (List.take y3.snd.fst.toNat (List.drop (i64.wrap (y4 + 2)).toNat (List.take (c.length : Int).toNat c))))]) (h)) else none) else none)) else none) else none) else none) else none) else none))) else none) else none) else none) else (some (g)))
def sound_Objects.f (k : Nat) (a0 : List Int) : Option (List S64) := ((sound_open.f k a0).bind fun y0 => (if (!y0.snd.snd.snd) = true then (some ([])) else ((sound_pool_table.f k y0.fst y0.snd.fst y0.snd.snd.fst).bind fun y1 => ((tile_Blocks.f k y1).bind fun y2 => (sound_Objects.c8 k ((y2.length : Int)) (0) (y0.fst) (y0.snd.fst) (y0.snd.snd.fst) ([]) (y2))))))
def sound_Objects.o : FnOk T Tryz.prog := mkO (tab_ok gl0) 16 Tryz.func16 [sound_open.o, tile_Blocks.o, sound_pool_table.o gl0, sound_pool_header.o, sound_Place.o gl0, oid_Name.o gl0] [] [tc (qf 33)] [] (tc (qo 0)) [(0, qr 64)] sound_Objects.f [mkC (List S64) 8 56 [(3, tc (qb 0)), (5, tc (qo 1)), (21, tc (qo 2)), (22, tc qI), (23, tc qI)] [(0, .box 73 [qf 33, qI, qI]), (1, qr 64), (2, qr 61)] 0 [0, 1, 2, 3, 4, 5, 6] sound_Objects.c8]
def sound_Sound.f (k : Nat) (a0 : List Int) : Option Int := ((sound_open.f k a0).bind fun y0 => (if (!y0.snd.snd.snd) = true then (some (7)) else (some (0))))
def sound_Sound.o : FnOk T Tryz.prog := mkO (tab_ok gl0) 13 Tryz.func13 [sound_open.o] [] [tc (qf 33)] [] (tc qI) [] sound_Sound.f []
def sound_Root.c3 : Nat → List Int → Int → Int → List S64 → Option (Int × Int × Int)
 | 0, _, _, _, _ => none
 | k + 1, a, b, c, d => (if decide (c < b) = true then (if 0 ≤ c then (if c < (d.length : Int) then (if c.toNat < d.length then (if 8 < (a.length : Int) then (if (u64.wrap (d.getD c.toNat z64).f0.f0 == a.getD (Int.toNat 8) 0) = true then (some ((d.getD c.toNat z64).f0.f0, (d.getD c.toNat z64).f0.f1, (d.getD c.toNat z64).f0.f2)) else (sound_Root.c3 k (a) (b) (i64.wrap (c + 1)) (d))) else none) else none) else none) else none) else (some (0, 0, 0)))
def sound_Root.f (k : Nat) (a0 : List Int) : Option (Int × Int × Int) := ((sound_Objects.f k a0).bind fun y0 => (sound_Root.c3 k (a0) ((y0.length : Int)) (0) (y0)))
def sound_Root.o : FnOk T Tryz.prog := mkO (tab_ok gl0) 18 Tryz.func18 [sound_Objects.o] [] [tc (qf 33)] [] (ta [qI, qI, qU]) [] sound_Root.f [mkC (Int × Int × Int) 3 24 [(0, tc (qf 33)), (2, tc (qb 0)), (6, tc (qo 1)), (7, tc qI), (8, tc qI)] [(0, .box 42 [qI, qI, qU]), (1, qr 64)] 0 [0, 1, 2, 6] sound_Root.c3]
def l16_awake.f (k : Nat)  : Option Bool := ((r16_Stocked.f k 0 0 [33] [] [] 0 1 []).bind fun y0 => ((sound_Objects.f k y0).bind fun y1 => ((sound_Sound.f k y0).bind fun y2 => (if (y2 == 0) = true then (if 100 ≤ (y0.length : Int) then ((sound_Sound.f k (List.drop (Int.toNat 0) (List.take (Int.toNat 100) y0))).bind fun y3 => (if (y3 == 7) = true then (if ((y1.length : Int) == 1) = true then (if 0 < (y1.length : Int) then (if Int.toNat 0 < y1.length then (if ((y1.getD (Int.toNat 0) z64).f0.f0 == 84 && ((y1.getD (Int.toNat 0) z64).f0.f1 == 1 && (y1.getD (Int.toNat 0) z64).f0.f2 == 1)) = true then ((sound_Root.f k y0).bind fun y4 => (if 0 < (y1.length : Int) then (if Int.toNat 0 < y1.length then (some (y4.fst == (y1.getD (Int.toNat 0) z64).f0.f0 && (y4.snd.fst == (y1.getD (Int.toNat 0) z64).f0.f1 && y4.snd.snd == (y1.getD (Int.toNat 0) z64).f0.f2))) else none) else none)) else (some (false))) else none) else none) else (some (false))) else (some (false)))) else none) else (some (false))))))
def l16_awake.o : FnOk T Tryz.prog := mkO (tab_ok gl0) 10 Tryz.func10 [r16_Stocked.o gl0, sound_Objects.o, sound_Sound.o, sound_Root.o] [] [] [] (tc qB) [] l16_awake.f []
def r16_Few.f (k : Nat) (a0_0 a0_1 : Int) (a0_2 a0_3 a0_4 : List Int) (a0_5 a0_6 : Int) (a0_7 : List Int) : Option Bool := (if decide ((a0_2.length : Int) ≤ 20) = true then (if decide ((a0_3.length : Int) ≤ 40) = true then (if decide ((a0_4.length : Int) ≤ 40) = true then (some (decide ((a0_7.length : Int) ≤ 40))) else (some (false))) else (some (false))) else (some (false)))
def r16_Few.o : FnOk (Tg g) Tryz.prog := mkO (tab_ok g) 11 Tryz.func11 [] [] [ta [qY, qY, (qf 32), (qf 5), (qf 5), qW, qY, (qf 33)]] [] (tc qB) [] r16_Few.f []
def r07_Decode.f (k : Nat) (a0 : Int) : Option (Int × Int × Int × Bool) := ((r07_Right.f k (i64.wrap (a0.tmod 4)) (i64.wrap ((u64.wrap (a0.tdiv 4)).tmod 16384)) (u64.wrap (a0.tdiv 65536))).bind fun y0 => (if (!y0) = true then (some (0, 0, 0, false)) else (some (i64.wrap (a0.tmod 4), i64.wrap ((u64.wrap (a0.tdiv 4)).tmod 16384), u64.wrap (a0.tdiv 65536), true))))
def r07_Decode.o : FnOk (Tg g) Tryz.prog := mkO (tab_ok g) 33 Tryz.func33 [r07_Right.o g] [] [tc qU] [] (.tup [.agg [qI, qI, qU], .cell qB]) [] r07_Decode.f []
def r11_tail.c3 : Nat → List S114 → Int → Int → Option Bool
 | 0, _, _, _ => none
 | k + 1, a, b, c => (if decide (c < b) = true then (if 0 ≤ c then (if c < (a.length : Int) then (if ((a.getD c.toNat z114).f0 == 2) = true then (if 0 ≤ c then (if c < (a.length : Int) then (if decide (b < i64.wrap (c + (a.getD c.toNat z114).f3)) = true then (some (true)) else (r11_tail.c3 k (a) (b) (i64.wrap (c + 1)))) else none) else none) else (r11_tail.c3 k (a) (b) (i64.wrap (c + 1)))) else none) else none) else (some (false)))
def r11_tail.f (k : Nat) (a0 : List S114) (a1 : Int) : Option Bool := (r11_tail.c3 k (a0) (a1) (0))
def r11_tail.o : FnOk (Tg g) Tryz.prog := mkO (tab_ok g) 68 Tryz.func68 [] [] [tc (qf 114), tc qI] [] (tc qB) [] r11_tail.f [mkC Bool 3 28 [(0, tc (qf 114)), (1, tc qI), (5, tc qI)] [] 0 [0, 1, 2] r11_tail.c3]
def r11_Right.c7 : Nat → Int → List S114 → Option Bool
 | 0, _, _ => none
 | k + 1, a, b => (if decide (a < (b.length : Int)) = true then ((r11_tail.f k b a).bind fun y1 => (if 0 ≤ a then (if a < (b.length : Int) then (if a.toNat < b.length then (if (!y1 == ((b.getD a.toNat z114).f0 == 3)) = true then (some (false)) else (if 0 ≤ a then (if a < (b.length : Int) then (if a.toNat < b.length then (if ((b.getD a.toNat z114).f0 == 2) = true then (if 0 ≤ a then (if a < (b.length : Int) then (if a.toNat < b.length then (if decide (i64.wrap (a + ((b).getD a.toNat z114).f3) > (b.length : Int)) = true then (some (false)) else (r11_Right.c7 k (i64.wrap (a + 1)) (b))) else none) else none) else none) else (r11_Right.c7 k (i64.wrap (a + 1)) (b))) else none) else none) else none)) else none) else none) else none)) else (some (true)))
def r11_Right.f (k : Nat) (a0 : List Int) : Option Bool := ((r11_Chunks.f k a0).bind fun y0 => (if (!y0.fst) = true then (some (false)) else (r11_Right.c7 k (0) (y0.snd))))
def r11_Right.o : FnOk (Tg g) Tryz.prog := mkO (tab_ok g) 34 Tryz.func34 [r11_Chunks.o g, r11_tail.o g] [] [tc (qf 33)] [] (tc qB) [] r11_Right.f [mkC Bool 7 49 [(3, tc (qo 0)), (5, tc qI)] [(0, qr 114)] 0 [0, 1] r11_Right.c7]
def r08_Decode.f (k : Nat) (a0 : List Int) : Option (Int × Int × Int × Bool) := (if decide ((a0.length : Int) < 2) = true then (some (0, 0, 0, false)) else (if 0 < (a0.length : Int) then (if 0 < (a0.length : Int) then (if 1 < (a0.length : Int) then ((r08_Right.f k (i64.wrap (Int.tmod (a0.getD (Int.toNat 0) 0) 65536)) (i64.wrap ((u64.wrap (Int.tdiv (a0.getD (Int.toNat 0) 0) 65536)).tmod 65536)) (a0.getD (Int.toNat 1) 0)).bind fun y0 => (if (!y0) = false then (if 0 < (a0.length : Int) then (if (u64.wrap (Int.tdiv (a0.getD (Int.toNat 0) 0) 4294967296) != 4200005632) = true then (some (0, 0, 0, false)) else (some (i64.wrap (Int.tmod (a0.getD (Int.toNat 0) 0) 65536), i64.wrap ((u64.wrap (Int.tdiv (a0.getD (Int.toNat 0) 0) 65536)).tmod 65536), a0.getD (Int.toNat 1) 0, true))) else none) else (some (0, 0, 0, false)))) else none) else none) else none))
def r08_Decode.o : FnOk (Tg g) Tryz.prog := mkO (tab_ok g) 69 Tryz.func69 [r08_Right.o g] [] [tc (qf 33)] [] (.tup [.agg [qI, qI, qU], .cell qB]) [] r08_Decode.f []
def r09_Right.f (k : Nat) (a0 : Int) : Option Bool := (if decide (a0 ≥ 0) = true then (some (decide (a0 ≤ 4096))) else (some (false)))
def r09_Right.o : FnOk (Tg g) Tryz.prog := mkO (tab_ok g) 93 Tryz.func93 [] [] [tc qI] [] (tc qB) [] r09_Right.f []
def r09_Of.c4 : Nat → Int → Bool → Int → Option Int
 | 0, _, _, _ => none
 | k + 1, a, b, c => (if b = true then (if decide (c < 3) = true then ((r09_Block.f k c).bind fun y1 => (if decide (y1 ≥ i64.wrap (a + 2)) = true then (some (c)) else (r09_Of.c4 k (a) (b) (i64.wrap (c + 1))))) else (some (-1))) else (some (-1)))
def r09_Of.f (k : Nat) (a0 : Int) : Option Int := ((r09_Right.f k a0).bind fun y0 => (r09_Of.c4 k (a0) (y0) (0)))
def r09_Of.o : FnOk (Tg g) Tryz.prog := mkO (tab_ok g) 70 Tryz.func70 [r09_Right.o g, r09_Block.o g] [] [tc qI] [] (tc qI) [] r09_Of.f [mkC Int 4 20 [(0, tc qI), (3, tc qB), (4, tc qI)] [] 0 [0, 1, 2] r09_Of.c4]
def r09_Chunks.c4 : Nat → Int → Bool → Int → Option Int
 | 0, _, _, _ => none
 | k + 1, a, b, c => (if b = true then ((r09_Of.f k a).bind fun y1 => (if decide (y1 < 0) = true then (if decide (i64.wrap (32 * c) < i64.wrap (a + 2)) = true then (r09_Chunks.c4 k (a) (b) (i64.wrap (c + 1))) else (some (c))) else (some (c)))) else (some (c)))
def r09_Chunks.f (k : Nat) (a0 : Int) : Option Int := ((r09_Right.f k a0).bind fun y0 => (r09_Chunks.c4 k (a0) (y0) (0)))
def r09_Chunks.o : FnOk (Tg g) Tryz.prog := mkO (tab_ok g) 71 Tryz.func71 [r09_Right.o g, r09_Of.o g] [] [tc qI] [] (tc qI) [] r09_Chunks.f [mkC Int 4 23 [(0, tc qI), (3, tc qB), (4, tc qI)] [] 0 [0, 1, 2] r09_Chunks.c4]
def r16_Header.f (k : Nat) (a0 : List Int) (a1_0 a1_1 a2_0 a2_1 a2_2 : Int) : Option (Int × Int × Int × Bool) := ((r16_Place.f k a1_0 a1_1 a2_0 a2_1 a2_2).bind fun y0 => (if 0 ≤ y0 then (if y0 ≤ i64.wrap (y0 + 2) then (if i64.wrap (y0 + 2) ≤ (a0.length : Int) then ((r08_Decode.f k (List.drop y0.toNat (List.take (i64.wrap (y0 + 2)).toNat a0))).bind fun y1 => (if (!y1.snd.snd.snd) = true then (some (y1.fst, y1.snd.fst, y1.snd.snd.fst, false)) else (if decide (a2_2 < 32) = true then ((r09_Of.f k y1.snd.fst).bind fun y2 => (if decide (y2 ≥ 0) = true then ((r09_Block.f k y2).bind fun y3 => (some (y1.fst, y1.snd.fst, y1.snd.snd.fst, y3 == a2_2))) else (some (y1.fst, y1.snd.fst, y1.snd.snd.fst, false)))) else ((r09_Chunks.f k y1.snd.fst).bind fun y4 => (some (y1.fst, y1.snd.fst, y1.snd.snd.fst, y4 == i64.wrap (a2_2.tdiv 32))))))) else none) else none) else none))
def r16_Header.o : FnOk (Tg g) Tryz.prog := mkO (tab_ok g) 36 Tryz.func36 [r16_Place.o g, r08_Decode.o g, r09_Of.o g, r09_Block.o g, r09_Chunks.o g] [] [tc (qf 33), ta [qI, qI], ta [qI, qI, qI]] [] (.tup [.agg [qI, qI, qU], .cell qB]) [] r16_Header.f []
mutual
def r16_Sound.c7 : Nat → List Int → Int → Int → Int → Option Int
 | 0, _, _, _, _ => none
 | k + 1, a, b, c, d => (if decide (b < d) = true then (if 0 ≤ i64.wrap (10 + b) then (if i64.wrap (10 + b) < (a.length : Int) then ((r07_Decode.f k (a.getD (i64.wrap (10 + b)).toNat 0)).bind fun y1 => (if (!y1.snd.snd.snd) = false then (if (y1.fst != 0) = true then (some (7)) else (r16_Sound.c7 k (a) (i64.wrap (b + 1)) (c) (d))) else (some (7)))) else none) else none) else ((r05_Table.f k c d).bind fun y2 => ((r15_Part.f k a y2.fst y2.snd).bind fun y3 => ((r11_Right.f k y3).bind fun y4 => (if (!y4) = false then (if 9 < (a.length : Int) then (if decide (a.getD (Int.toNat 9) 0 > 4294967295) = true then (some (7)) else (r16_Sound.c21 k (a) (y3) (0) (c) (d))) else none) else (some (7)))))))
def r16_Sound.c21 : Nat → List Int → List Int → Int → Int → Int → Option Int
 | 0, _, _, _, _, _ => none
 | k + 1, a, b, c, d, e => (if decide (c < 64) = true then ((r11_Logs.f k b c).bind fun y5 => (if decide (((y5).length : Int) > 0) = true then (some (7)) else (r16_Sound.c21 k (a) (b) (i64.wrap (c + 1)) (d) (e)))) else ((r11_Blocks.f k b).bind fun y6 => (if 8 < (a.length : Int) then (r16_Sound.c31 k (a) (a.getD (Int.toNat 8) 0 == 0) (0) (d) (e) (y6)) else none)))
def r16_Sound.c31 : Nat → List Int → Bool → Int → Int → Int → List S61 → Option Int
 | 0, _, _, _, _, _, _ => none
 | k + 1, a, b, c, d, e, g => (if decide (c < (g.length : Int)) = true then (if 0 ≤ c then (if c < (g.length : Int) then (if c.toNat < g.length then ((r16_Header.f k a d e (g.getD c.toNat z61).f0 (g.getD c.toNat z61).f1 (g.getD c.toNat z61).f2).bind fun y7 => (if (!y7.snd.snd.snd) = false then (if 9 < (a.length : Int) then (if decide (u64.wrap ((y7.snd.snd.fst).tdiv 4294967296) > a.getD (Int.toNat 9) 0) = true then (some (7)) else (r16_Sound.c41 k (a) (b) (c) (0) (d) (e) (g) (y7.snd.snd.fst))) else none) else (some (7)))) else none) else none) else none) else (if (!b) = true then (some (7)) else (some (0))))
def r16_Sound.c41 : Nat → List Int → Bool → Int → Int → Int → Int → List S61 → Int → Option Int
 | 0, _, _, _, _, _, _, _, _ => none
 | k + 1, a, b, c, d, e, g, h, i => (if decide (d < c) = true then (if 0 ≤ d then (if d < (h.length : Int) then (if d.toNat < h.length then ((r16_Header.f k a e g (h.getD d.toNat z61).f0 (h.getD d.toNat z61).f1 (h.getD d.toNat z61).f2).bind fun y8 => (if (y8.snd.snd.fst == i) = true then (some (7)) else (r16_Sound.c41 k (a) (b) (c) (i64.wrap (d + 1)) (e) (g) (h) (i)))) else none) else none) else none) else (if b = false then (if 8 < (a.length : Int) then (if 0 ≤ c then (if c < (h.length : Int) then (if c.toNat < h.length then ((r16_Place.f k e g (h.getD c.toNat z61).f0 (h.getD c.toNat z61).f1 (h.getD c.toNat z61).f2).bind fun y9 => (r16_Sound.c31 k (a) (a.getD (Int.toNat 8) 0 == u64.wrap y9) (i64.wrap (c + 1)) (e) (g) (h))) else none) else none) else none) else none) else (r16_Sound.c31 k (a) (true) (i64.wrap (c + 1)) (e) (g) (h))))
end
def r16_Sound.f (k : Nat) (a0 : List Int) : Option Int := ((r06_Decode.f k a0).bind fun y0 => (if (y0.snd.snd != 0) = true then (some (7)) else (r16_Sound.c7 k (a0) (0) (y0.fst) (y0.snd.fst))))
def r16_Sound.o : FnOk (Tg g) Tryz.prog := mkO (tab_ok g) 14 Tryz.func14 [r06_Decode.o g, r07_Decode.o g, r15_Part.o g, r05_Table.o g, r11_Right.o g, r11_Logs.o g, r11_Blocks.o g, r16_Header.o g, r16_Place.o g] [] [tc (qf 33)] [] (tc qI) [] r16_Sound.f [mkC Int 7 140 [(0, tc (qf 33)), (3, tc (qb 0)), (5, tc qI)] [(0, .box 51 [qI, qI])] 0 [0, 1, 2, 3] r16_Sound.c7, mkC Int 21 140 [(0, tc (qf 33)), (3, tc (qb 0)), (8, tc (qf 33)), (10, tc qI)] [(0, .box 51 [qI, qI])] 0 [0, 1, 2, 3, 4] r16_Sound.c21, mkC Int 31 140 [(0, tc (qf 33)), (3, tc (qb 0)), (11, tc (qo 1)), (12, tc qB), (13, tc qI)] [(0, .box 51 [qI, qI]), (1, qr 61)] 0 [0, 1, 2, 3, 4, 5] r16_Sound.c31, mkC Int 41 140 [(0, tc (qf 33)), (3, tc (qb 0)), (11, tc (qo 1)), (12, tc qB), (13, tc qI), (14, tc (qb 2)), (16, tc qI), (96, tc (.box 2 2)), (97, tc qU), (98, tc qU), (99, tc (qf 33)), (100, tc (.elp .far 33 (T.Γ.el 33).z 0)), (101, tc qU), (102, tc qB)] [(0, .box 51 [qI, qI]), (1, qr 61), (2, .box 71 [qI, qI, qU])] 0 [0, 1, 2, 3, 10, 11, 12, 15] r16_Sound.c41]
def r01_Words.c6 : Nat → List Int → List Int → Int → Option Bool
 | 0, _, _, _ => none
 | k + 1, a, b, c => (if decide (c < (a.length : Int)) = true then (if 0 ≤ c then (if c < (a.length : Int) then (if 0 ≤ c then (if c < (b.length : Int) then (if (a.getD c.toNat 0 != b.getD c.toNat 0) = true then (some (false)) else (r01_Words.c6 k (a) (b) (i64.wrap (c + 1)))) else none) else none) else none) else none) else (some (true)))
def r01_Words.f (k : Nat) (a0 a1 : List Int) : Option Bool := (if ((a0.length : Int) != (a1.length : Int)) = true then (some (false)) else (r01_Words.c6 k (a0) (a1) (0)))
def r01_Words.o : FnOk (Tg g) Tryz.prog := mkO (tab_ok g) 37 Tryz.func37 [] [] [tc (qf 33), tc (qf 33)] [] (tc qB) [] r01_Words.f [mkC Bool 6 26 [(0, tc (qf 33)), (1, tc (qf 33)), (5, tc qI)] [] 0 [0, 1, 2] r01_Words.c6]
def r16_Same.c6 : Nat → List S64 → List S64 → Int → Option Bool
 | 0, _, _, _ => none
 | k + 1, a, b, c => (if decide (c < (a.length : Int)) = true then (if 0 ≤ c then (if c < (a.length : Int) then (if 0 ≤ c then (if c < (b.length : Int) then (if (!((a.getD c.toNat z64).f0.f0 == (b.getD c.toNat z64).f0.f0 && ((a.getD c.toNat z64).f0.f1 == (b.getD c.toNat z64).f0.f1 && (a.getD c.toNat z64).f0.f2 == (b.getD c.toNat z64).f0.f2))) = false then (if 0 ≤ c then (if c < (a.length : Int) then (if 0 ≤ c then (if c < (b.length : Int) then ((r01_Words.f k (a.getD c.toNat z64).f1 (b.getD c.toNat z64).f1).bind fun y0 => (if (!y0) = true then (some (false)) else (r16_Same.c6 k (a) (b) (i64.wrap (c + 1))))) else none) else none) else none) else none) else (some (false))) else none) else none) else none) else none) else (some (true)))
def r16_Same.f (k : Nat) (a0 a1 : List S64) : Option Bool := (if ((a0.length : Int) != (a1.length : Int)) = true then (some (false)) else (r16_Same.c6 k (a0) (a1) (0)))
def r16_Same.o : FnOk (Tg g) Tryz.prog := mkO (tab_ok g) 15 Tryz.func15 [r01_Words.o g] [] [tc (qf 64), tc (qf 64)] [] (tc qB) [] r16_Same.f [mkC Bool 6 42 [(0, tc (qf 64)), (1, tc (qf 64)), (5, tc qI)] [] 0 [0, 1, 2] r16_Same.c6]
def r16_Objects.c10 : Nat → List Int → Int → Int → Int → List S61 → List S64 → Option (List S64)
 | 0, _, _, _, _, _, _ => none
 | k + 1, a, b, c, d, e, g => (if decide (b < (e.length : Int)) = true then (if 0 ≤ b then (if b < (e.length : Int) then (if b.toNat < e.length then ((r16_Header.f k a c d (e.getD b.toNat z61).f0 (e.getD b.toNat z61).f1 (e.getD b.toNat z61).f2).bind fun y5 => (if 0 ≤ b then (if b < (e.length : Int) then (if b.toNat < e.length then ((r16_Place.f k c d (e.getD b.toNat z61).f0 (e.getD b.toNat z61).f1 (e.getD b.toNat z61).f2).bind fun y6 => (if 0 ≤ i64.wrap (y6 + 2) then (if i64.wrap (y6 + 2) ≤ i64.wrap (i64.wrap (y6 + 2) + y5.snd.fst) then (if i64.wrap (i64.wrap (y6 + 2) + y5.snd.fst) ≤ (a.length : Int) then (if 0 + (List.drop (i64.wrap (y6 + 2)).toNat (List.take (i64.wrap (i64.wrap (y6 + 2) + y5.snd.fst)).toNat a)).length ≤ big then (if g.length + [S64.mk (S42.mk y6 y5.fst y5.snd.snd.fst) ([] ++ List.drop (i64.wrap (y6 + 2)).toNat (List.take (i64.wrap (i64.wrap (y6 + 2) + y5.snd.fst)).toNat a))].length ≤ big then (r16_Objects.c10 k (a) (i64.wrap (b + 1)) (c) (d) (e) (g ++ [S64.mk (S42.mk y6 y5.fst y5.snd.snd.fst) ([] ++ List.drop (i64.wrap (y6 + 2)).toNat (List.take (i64.wrap (i64.wrap (y6 + 2) + y5.snd.fst)).toNat a))])) else none) else none) else none) else none) else none)) else none) else none) else none)) else none) else none) else none) else (some (g)))
def r16_Objects.f (k : Nat) (a0 : List Int) : Option (List S64) := ((r16_Sound.f k a0).bind fun y0 => (if (y0 != 0) = true then (some ([])) else ((r06_Decode.f k a0).bind fun y1 => ((r05_Table.f k y1.fst y1.snd.fst).bind fun y2 => ((r15_Part.f k a0 y2.fst y2.snd).bind fun y3 => ((r11_Blocks.f k y3).bind fun y4 => (r16_Objects.c10 k (a0) (0) (y1.fst) (y1.snd.fst) (y4) ([]))))))))
def r16_Objects.o : FnOk (Tg g) Tryz.prog := mkO (tab_ok g) 17 Tryz.func17 [r16_Sound.o g, r06_Decode.o g, r11_Blocks.o g, r15_Part.o g, r05_Table.o g, r16_Header.o g, r16_Place.o g] [] [tc (qf 33)] [] (tc (qo 0)) [(0, qr 64)] r16_Objects.f [mkC (List S64) 10 70 [(0, tc (qf 33)), (4, tc (qb 0)), (6, tc (qo 1)), (7, tc (qo 2)), (8, tc qI)] [(0, .box 51 [qI, qI]), (1, qr 61), (2, qr 64)] 0 [0, 1, 2, 3, 4, 5] r16_Objects.c10]
def r16_Root.c4 : Nat → List Int → Int → List S64 → Option (Int × Int × Int)
 | 0, _, _, _ => none
 | k + 1, a, b, c => (if decide (b < (c.length : Int)) = true then (if 8 < (a.length : Int) then (if 0 ≤ b then (if b < (c.length : Int) then (if b.toNat < c.length then (if (a.getD (Int.toNat 8) 0 == u64.wrap (c.getD b.toNat z64).f0.f0) = true then (if 0 ≤ b then (if b < (c.length : Int) then (if b.toNat < c.length then (some ((c.getD b.toNat z64).f0.f0, (c.getD b.toNat z64).f0.f1, (c.getD b.toNat z64).f0.f2)) else none) else none) else none) else (r16_Root.c4 k (a) (i64.wrap (b + 1)) (c))) else none) else none) else none) else none) else (some (0, 0, 0)))
def r16_Root.f (k : Nat) (a0 : List Int) : Option (Int × Int × Int) := ((r16_Objects.f k a0).bind fun y0 => (r16_Root.c4 k (a0) (0) (y0)))
def r16_Root.o : FnOk (Tg g) Tryz.prog := mkO (tab_ok g) 19 Tryz.func19 [r16_Objects.o g] [] [tc (qf 33)] [] (ta [qI, qI, qU]) [] r16_Root.f [mkC (Int × Int × Int) 4 30 [(0, tc (qf 33)), (2, tc (qb 0)), (3, tc (qo 1)), (4, tc qI)] [(0, .box 42 [qI, qI, qU]), (1, qr 64)] 0 [0, 1, 5] r16_Root.c4]
mutual
def r15_Few.c6 : Nat → Int → List S94 → Option Bool
 | 0, _, _ => none
 | k + 1, a, b => (if decide (a < (b.length : Int)) = true then (if 0 ≤ a then (if a < (b.length : Int) then (if decide (((b.getD a.toNat z94).f3.length : Int) > 12) = false then (if 0 ≤ a then (if a < (b.length : Int) then (if decide (((b.getD a.toNat z94).f4.length : Int) > 22) = true then (some (false)) else (r15_Few.c14 k (a) (0) (b))) else none) else none) else (some (false))) else none) else none) else (some (true)))
def r15_Few.c14 : Nat → Int → Int → List S94 → Option Bool
 | 0, _, _, _ => none
 | k + 1, a, b, c => (if 0 ≤ a then (if a < (c.length : Int) then (if decide (b < ((c.getD a.toNat z94).f3.length : Int)) = true then (if 0 ≤ a then (if a < (c.length : Int) then (if 0 ≤ b then (if b < ((c.getD a.toNat z94).f3.length : Int) then (if decide ((((c.getD a.toNat z94).f3.getD b.toNat z96).f1.length : Int) > 20) = true then (some (false)) else (r15_Few.c14 k (a) (i64.wrap (b + 1)) (c))) else none) else none) else none) else none) else (r15_Few.c6 k (i64.wrap (a + 1)) (c))) else none) else none)
end
def r15_Few.f (k : Nat) (a0_0 a0_1 : Int) (a0_2 a0_3 : List Int) (a0_4 : List S94) (a0_5 a0_6 : Int) (a0_7 : List S35) : Option Bool := (if decide ((a0_2.length : Int) > 20) = false then (if decide ((a0_3.length : Int) > 40) = false then (if decide ((a0_4.length : Int) > 4) = false then (if decide ((a0_7.length : Int) > 4) = true then (some (false)) else (r15_Few.c6 k (0) (a0_4))) else (some (false))) else (some (false))) else (some (false)))
def r15_Few.o : FnOk (Tg g) Tryz.prog := mkO (tab_ok g) 20 Tryz.func20 [] [] [ta [qY, qY, (qf 32), (qf 33), (qf 94), qU, qU, (qf 35)]] [] (tc qB) [] r15_Few.f [mkC Bool 6 75 [(1, tc (qb 0)), (3, tc qI)] [(0, .box 47 [qY, qY, qf 32, qf 33, qf 94, qU, qU, qf 35])] 0 [0, 5] r15_Few.c6, mkC Bool 14 75 [(1, tc (qb 0)), (3, tc qI), (4, tc qI), (43, tc (.box 0 4)), (44, tc (qf 94)), (45, tc qI), (46, tc (.elp .far 94 (T.Γ.el 94).z 0)), (47, tc (.elp .far 94 (T.Γ.el 94).z 4)), (48, tc (qf 135)), (49, tc qI), (50, tc qB)] [(0, .box 47 [qY, qY, qf 32, qf 33, qf 94, qU, qU, qf 35])] 0 [0, 1, 13] r15_Few.c14]
end Go.Proofs.YtbbpcbjgekencaaGreatDoor.FT
end
section
set_option linter.unusedVariables false
set_option linter.unusedSimpArgs false
set_option linter.unusedVariables false
set_option linter.unusedSimpArgs false
set_option maxRecDepth 100000
noncomputable section
namespace Go.Proofs.YtbbpcbjgekencaaGreatDoor.FT
open Go Go.Proofs.YtbbpcbjgekencaaGreatDoor Go.Proofs.YtbbpcbjgekencaaGreatDoor.Ev Go.Proofs.YtbbpcbjgekencaaGreatDoor.Q
open Go.IntKind (i64 u64 u32)
variable (g : List (Nat × Nat × Value))
def l16_SoundGiven.f (k : Nat) (a0_0 a0_1 : Int) (a0_2 a0_3 : List Int) (a0_4 : List S94) (a0_5 a0_6 : Int) (a0_7 : List S35) : Option Bool := ((l16_awake.f k).bind fun y0 => ((r15_Few.f k a0_0 a0_1 a0_2 a0_3 a0_4 a0_5 a0_6 a0_7).bind fun y1 => (if (!y1) = true then (some (y0)) else ((r15_Make.f k a0_0 a0_1 a0_2 a0_3 a0_4 a0_5 a0_6 a0_7).bind fun y2 => (if y0 = true then ((sound_Sound.f k y2).bind fun y3 => ((r16_Sound.f k y2).bind fun y4 => (if (y3 == y4) = true then ((sound_Objects.f k y2).bind fun y5 => ((r16_Objects.f k y2).bind fun y6 => ((r16_Same.f k y5 y6).bind fun y7 => (if y7 = true then ((sound_Root.f k y2).bind fun y8 => ((r16_Root.f k y2).bind fun y9 => (some (y8.fst == y9.fst && (y8.snd.fst == y9.snd.fst && y8.snd.snd == y9.snd.snd))))) else (some (false)))))) else (some (false))))) else (some (false)))))))
def l16_SoundGiven.o : FnOk T Tryz.prog := mkO (tab_ok gl0) 4 Tryz.func4 [l16_awake.o, r15_Few.o gl0, r15_Make.o gl0, sound_Sound.o, r16_Sound.o gl0, r16_Same.o gl0, sound_Objects.o, r16_Objects.o gl0, sound_Root.o, r16_Root.o gl0] [] [ta [qY, qY, (qf 32), (qf 33), (qf 94), qU, qU, (qf 35)]] [] (tc qB) [] l16_SoundGiven.f []
end Go.Proofs.YtbbpcbjgekencaaGreatDoor.FT
end
section
set_option linter.unusedVariables false
set_option linter.unusedSimpArgs false
set_option linter.unusedVariables false
set_option linter.unusedSimpArgs false
set_option maxRecDepth 100000
namespace Go.Proofs.YtbbpcbjgekencaaGreatDoor.H
open Go Go.RowKit Go.Proofs.YtbbpcbjgekencaaGreatDoorW.PrintWords Go.Proofs.YtbbpcbjgekencaaGreatDoor Go.Proofs.YtbbpcbjgekencaaGreatDoor.Q
noncomputable def l16_SoundGiven.f (k : Nat) (a0_0 : Int) (a0_1 : Int) (l0_2 : List Int) (l0_3 : List Int) (l0_4 : List S94) (a0_5 : Int) (a0_6 : Int) (l0_7 : List S35) : Option (Bool) := FT.l16_SoundGiven.f k a0_0 a0_1 l0_2 l0_3 l0_4 a0_5 a0_6 l0_7
theorem l16_SoundGiven.calls (k : Nat) (a0_0 : Int) (a0_1 : Int) (A0_2 : Option Addr) (c0_2 : Nat) (l0_2 : List Int) (A0_3 : Option Addr) (c0_3 : Nat) (l0_3 : List Int) (A0_4 : Option Addr) (c0_4 : Nat) (l0_4 : List S94) (a0_5 : Int) (a0_6 : Int) (A0_7 : Option Addr) (c0_7 : Nat) (l0_7 : List S35) (r : Bool) (w : World) (hr0_2 : Kd.C (Kd.int .u16) w A0_2 l0_2.length l0_2) (hc0_2 : l0_2.length ≤ c0_2) (hr0_3 : Kd.C (Kd.int .u64) w A0_3 l0_3.length l0_3) (hc0_3 : l0_3.length ≤ c0_3) (hr0_4 : Kd.C k94 w A0_4 l0_4.length l0_4) (hc0_4 : l0_4.length ≤ c0_4) (hr0_7 : Kd.C k35 w A0_7 l0_7.length l0_7) (hc0_7 : l0_7.length ≤ c0_7) (h : l16_SoundGiven.f k a0_0 a0_1 l0_2 l0_3 l0_4 a0_5 a0_6 l0_7 = some r) :
  CallsG 4 #[.agg #[.int .u8 a0_0, .int .u8 a0_1, .slice A0_2 l0_2.length c0_2, .slice A0_3 l0_3.length c0_3, .slice A0_4 l0_4.length c0_4, .int .u64 a0_5, .int .u64 a0_6, .slice A0_7 l0_7.length c0_7]] w fun e w' => e = .returned (.bool r) ∧ Below w.heap.size w w' := by
 intro hG
 unfold l16_SoundGiven.f at h
 have hq := h
 refine (Ev.ok_calls (FT.l16_SoundGiven.o).ok (k := k) (ats := [.int a0_0, .int a0_1, .sl 32 l0_2, .sl 33 l0_3, .sl 94 l0_4, .int a0_5, .int a0_6, .sl 35 l0_7]) hq (xs := [.t (.agg [.c (.int .u8 a0_0), .c (.int .u8 a0_1), .sl .far 32 l0_2, .sl .far 33 l0_3, .sl .far 94 l0_4, .c (.int .u64 a0_5), .c (.int .u64 a0_6), .sl .far 35 l0_7])]) rfl rfl (vals := #[.agg #[.int .u8 a0_0, .int .u8 a0_1, .slice A0_2 l0_2.length c0_2, .slice A0_3 l0_3.length c0_3, .slice A0_4 l0_4.length c0_4, .int .u64 a0_5, .int .u64 a0_6, .slice A0_7 l0_7.length c0_7]]) (.cons (.t (.agg (Ev.concL_cons (.c _) (Ev.concL_cons (.c _) (Ev.concL_cons (Ev.conc_of_C (Ev.tab_ok Ev.gl0) (e := 32) (Kd.int .u16) rfl hr0_2 hc0_2 (of_decide_eq_true (by kernel_rfl)) (Ev.k1_32 fun q hq => Ev.any_far hq) fun q hq => Ev.any_far hq) (Ev.concL_cons (Ev.conc_of_C (Ev.tab_ok Ev.gl0) (e := 33) (Kd.int .u64) rfl hr0_3 hc0_3 (of_decide_eq_true (by kernel_rfl)) (Ev.k1_33 fun q hq => Ev.any_far hq) fun q hq => Ev.any_far hq) (Ev.concL_cons (Ev.conc_of_C (Ev.tab_ok Ev.gl0) (e := 94) k94 rfl hr0_4 hc0_4 (of_decide_eq_true (by kernel_rfl)) (Ev.k1_94 fun q hq => Ev.any_far hq) fun q hq => Ev.any_far hq) (Ev.concL_cons (.c _) (Ev.concL_cons (.c _) (Ev.concL_cons (Ev.conc_of_C (Ev.tab_ok Ev.gl0) (e := 35) k35 rfl hr0_7 hc0_7 (of_decide_eq_true (by kernel_rfl)) (Ev.k1_35 fun q hq => Ev.any_far hq) fun q hq => Ev.any_far hq) Ev.concL_nil)))))))))) .nil) (of_gl hG)).mono ?_
 rintro e w' ⟨x, E', rfl, hL⟩
 rw [Ev.left_value hL rfl]
 exact ⟨rfl, Ev.left_below hL⟩
end Go.Proofs.YtbbpcbjgekencaaGreatDoor.H
end
section
set_option linter.unusedVariables false
set_option linter.unusedSimpArgs false
set_option linter.unusedVariables false
set_option linter.unusedSimpArgs false
namespace Go.Proofs.YtbbpcbjgekencaaGreatDoor.PS
open Go Go.Proofs.YtbbpcbjgekencaaGreatDoor.Q Go.Proofs.YtbbpcbjgekencaaGreatDoor.FT Go.Proofs.YtbbpcbjgekencaaGreatDoor.Ev
def Evt {α : Type} (g : Nat → Option α) (r : α) : Prop := ∃ K, ∀ k, K ≤ k → g k = some r
theorem Evt.some {α : Type} (r : α) : Evt (fun _ => Option.some r) r := ⟨0, fun _ _ => rfl⟩
theorem Evt.of {α : Type} {g : Nat → Option α} {r : α} (h : ∀ k, g k = Option.some r) : Evt g r := ⟨0, fun k _ => h k⟩
theorem Evt.step {α : Type} {g f : Nat → Option α} {r : α} (h : ∀ k, g (k + 1) = f k) (k : Evt f r) : Evt g r := by
 obtain ⟨K, hk⟩ := k
 refine ⟨K + 1, fun j hj => ?_⟩
 obtain ⟨j, rfl⟩ : ∃ i, j = i + 1 := ⟨j - 1, by omega⟩
 rw [h]
 exact hk j (by omega)
theorem Evt.bind {α β : Type} {g : Nat → Option α} {f : Nat → α → Option β} {a : α} {r : β} (h : Evt g a) (k : Evt (fun n => f n a) r) : Evt (fun n => (g n).bind (f n)) r := by
 obtain ⟨K, hK⟩ := h
 obtain ⟨L, hL⟩ := k
 refine ⟨max K L, fun j hj => ?_⟩
 show (g j).bind (f j) = _
 rw [hK j (by omega)]
 exact hL j (by omega)
theorem Evt.eq {α : Type} {g : Nat → Option α} {r r' : α} (h : Evt g r) (e : r = r') : Evt g r' := e ▸ h
theorem Evt.congr {α : Type} {g f : Nat → Option α} {r : α} (h : Evt f r) (e : ∀ k, g k = f k) : Evt g r := by
 obtain ⟨K, hK⟩ := h
 exact ⟨K, fun k hk => (e k).trans (hK k hk)⟩
def Wd (x : Int) : Prop := 0 ≤ x ∧ x < 18446744073709551616
def U64 (l : List Int) : Prop := ∀ x ∈ l, Wd x
theorem i64w {x : Int} (h : -9223372036854775808 ≤ x) (h2 : x ≤ 9223372036854775807) : IntKind.i64.wrap x = x := by
 unfold IntKind.wrap
 have e1 : (2 ^ IntKind.i64.bits : Int) = 18446744073709551616 := by decide +kernel
 have e2 : (2 ^ (IntKind.i64.bits - 1) : Int) = 9223372036854775808 := by decide +kernel
 have e3 : IntKind.i64.signed = true := rfl
 simp only [e1, e2, e3, Bool.true_and, decide_eq_true_eq]
 split <;> omega
theorem u64w {x : Int} (h : 0 ≤ x) (h2 : x < 18446744073709551616) : IntKind.u64.wrap x = x := by
 unfold IntKind.wrap
 simp only [IntKind.bits, IntKind.signed, Bool.false_and, Bool.false_eq_true, if_false]
 omega
theorem u32w {x : Int} (h : 0 ≤ x) (h2 : x < 4294967296) : IntKind.u32.wrap x = x := by
 unfold IntKind.wrap
 simp only [IntKind.bits, IntKind.signed, Bool.false_and, Bool.false_eq_true, if_false]
 omega
theorem wu64 (a : Nat) (h : a < 18446744073709551616) : IntKind.u64.wrap (a : Int) = a := u64w (by omega) (by omega)
theorem ofInt64 (a : Nat) (h : a < 18446744073709551616) : (BitVec.ofInt IntKind.u64.bits (a : Int)).toNat = a := by
 simp only [IntKind.bits]
 rw [BitVec.toNat_ofInt]
 omega
theorem bits_and (a b : Nat) (ha : a < 18446744073709551616) (hb : b < 18446744073709551616) : Go.bits .and .u64 (a : Int) (b : Int) = ((a &&& b : Nat) : Int) := by
 unfold Go.bits
 simp only [BitVec.toNat_and, ofInt64 a ha, ofInt64 b hb]
 exact wu64 _ (Nat.lt_of_le_of_lt Nat.and_le_left ha)
theorem bits_or (a b : Nat) (ha : a < 18446744073709551616) (hb : b < 18446744073709551616) : Go.bits .or .u64 (a : Int) (b : Int) = ((a ||| b : Nat) : Int) := by
 unfold Go.bits
 simp only [BitVec.toNat_or, ofInt64 a ha, ofInt64 b hb]
 exact wu64 _ (Nat.or_lt_two_pow (n := 64) ha hb)
theorem bits_andNot (a b : Nat) (ha : a < 18446744073709551616) (hb : b < 18446744073709551616) : Go.bits .andNot .u64 (a : Int) (b : Int) = ((a &&& (18446744073709551615 - b) : Nat) : Int) := by
 unfold Go.bits
 have e : (~~~ (BitVec.ofInt IntKind.u64.bits (b : Int))).toNat = 18446744073709551615 - b := by
  rw [BitVec.toNat_not, ofInt64 b hb]
  simp only [IntKind.bits]
 simp only [BitVec.toNat_and, e, ofInt64 a ha]
 exact wu64 _ (Nat.lt_of_le_of_lt Nat.and_le_left ha)
theorem bits_mask (a n : Nat) (ha : a < 18446744073709551616) (hn : 2 ^ n - 1 < 18446744073709551616) : Go.bits .and .u64 (a : Int) ((2 ^ n - 1 : Nat) : Int) = ((a % 2 ^ n : Nat) : Int) := by
 rw [bits_and a _ ha hn, Nat.and_two_pow_sub_one_eq_mod]
theorem fits (k a m : Nat) (h1 : 1 ≤ m) (h2 : a + m ≤ 64) : field_Fits.f k (a : Int) (m : Int) = some true := by
 unfold field_Fits.f
 rw [i64w (by omega) (by omega), if_pos (decide_eq_true (by omega)), if_pos (decide_eq_true (by omega)), if_pos (decide_eq_true (by omega)), decide_eq_true (by omega)]
theorem maskN : ∀ m : Nat, m ≤ 64 → 18446744073709551615 / 2 ^ (64 - m) = 2 ^ m - 1 := by decide +kernel
theorem maskE (k m : Nat) (h2 : m ≤ 64) : field_mask.f k (m : Int) = some ((2 ^ m - 1 : Nat) : Int) := by
 unfold field_mask.f
 rw [i64w (by omega) (by omega), if_neg (by omega)]
 have e : min ((64 : Int) - (m : Int)).toNat 64 = 64 - m := by omega
 rw [e, ← maskN m h2, Int.fdiv_eq_ediv_of_nonneg _ (by exact Int.pow_nonneg (by omega)), Int.natCast_ediv, Int.natCast_pow]
 rfl
theorem pow_lt (m : Nat) (h : m ≤ 64) : 2 ^ m - 1 < 18446744073709551616 := by
 have : 2 ^ m ≤ 2 ^ 64 := Nat.pow_le_pow_right (by decide) h
 have := Nat.two_pow_pos m
 omega
theorem fgetN (k w a m : Nat) (hw : w < 18446744073709551616) (h1 : 1 ≤ m) (h2 : a + m ≤ 64) : field_Get.f k (w : Int) (a : Int) (m : Int) = some ((w / 2 ^ a % 2 ^ m : Nat) : Int) := by
 unfold field_Get.f
 rw [fits k a m h1 h2, Option.bind_some, if_neg (by decide), if_neg (by omega), maskE k m (by omega), Option.bind_some]
 have e : Int.fdiv (w : Int) (2 ^ min (a : Int).toNat 64) = ((w / 2 ^ a : Nat) : Int) := by
  rw [Int.toNat_natCast, Nat.min_eq_left (by omega), Int.fdiv_eq_ediv_of_nonneg _ (by exact Int.pow_nonneg (by omega))]
  norm_cast
 rw [e, bits_mask _ _ (Nat.lt_of_le_of_lt (Nat.div_le_self _ _) hw) (pow_lt m (by omega))]
theorem fget (k : Nat) (w : Int) (hw : Wd w) (a m : Nat) (h1 : 1 ≤ m) (h2 : a + m ≤ 64) : field_Get.f k w (a : Int) (m : Int) = some (w / 2 ^ a % 2 ^ m) := by
 obtain ⟨n, rfl⟩ : ∃ n : Nat, w = n := ⟨w.toNat, by have := hw.1; omega⟩
 rw [fgetN k n a m (by have := hw.2; omega) h1 h2]
 norm_cast
theorem or_part (w v a m : Nat) (hz : w / 2 ^ a % 2 ^ m = 0) (hv : v < 2 ^ m) : w ||| v * 2 ^ a = w + v * 2 ^ a := by
 have h1 : 2 ^ a * (w / 2 ^ a) + w % 2 ^ a = w := Nat.div_add_mod w (2 ^ a)
 have h2 : 2 ^ m * (w / 2 ^ a / 2 ^ m) + 0 = w / 2 ^ a := by have := Nat.div_add_mod (w / 2 ^ a) (2 ^ m); omega
 have hlo : w % 2 ^ a < 2 ^ a := Nat.mod_lt _ (Nat.two_pow_pos a)
 generalize w / 2 ^ a / 2 ^ m = h at h2
 have e1 : w = (2 ^ m * h) * 2 ^ a ||| w % 2 ^ a := by
  rw [Nat.mul_comm, ← Nat.two_pow_add_eq_or_of_lt hlo]
  rw [show 2 ^ m * h = w / 2 ^ a from h2]
  exact h1.symm
 have e2 : (2 ^ m * h) * 2 ^ a ||| v * 2 ^ a = (2 ^ m * h ||| v) * 2 ^ a := by
  apply Nat.eq_of_testBit_eq
  intro i
  simp only [Nat.testBit_or, Nat.testBit_mul_two_pow]
  cases decide (a ≤ i) <;> simp
 have e3 : w ||| v * 2 ^ a = (2 ^ m * h ||| v) * 2 ^ a ||| w % 2 ^ a := by
  rw [← e2]
  conv => lhs; lhs; rw [e1]
  rw [Nat.or_assoc, Nat.or_comm (w % 2 ^ a), ← Nat.or_assoc]
 rw [e3, ← Nat.two_pow_add_eq_or_of_lt hv, Nat.mul_comm, ← Nat.two_pow_add_eq_or_of_lt hlo]
 have h3 : 2 ^ m * h = w / 2 ^ a := h2
 rw [h3, Nat.mul_add, Nat.mul_comm (2 ^ a) v]
 omega
theorem keep_part (w a m : Nat) (hw : w < 2 ^ 64) (hm : (2 ^ m - 1) * 2 ^ a < 2 ^ 64) (hz : w / 2 ^ a % 2 ^ m = 0) : w &&& (2 ^ 64 - ((2 ^ m - 1) * 2 ^ a + 1)) = w := by
 apply Nat.eq_of_testBit_eq
 intro i
 rw [Nat.testBit_and, Nat.testBit_two_pow_sub_succ hm, Nat.testBit_mul_two_pow]
 by_cases h64 : i < 64
 ·by_cases ha : a ≤ i
  ·by_cases him : i - a < m
   ·have : w.testBit i = false := by
     have h := congrArg (fun x => x.testBit (i - a)) hz
     simp only [Nat.testBit_mod_two_pow, Nat.zero_testBit, him, decide_true, Bool.true_and, Nat.testBit_div_two_pow] at h
     rw [show i - a + a = i by omega] at h
     exact h
    simp [this]
   ·have : (2 ^ m - 1).testBit (i - a) = false := by rw [Nat.testBit_two_pow_sub_one]; simpa using him
    simp [this, h64]
  ·simp [ha, h64]
 ·have : w.testBit i = false := Nat.testBit_lt_two_pow (Nat.lt_of_lt_of_le hw (Nat.pow_le_pow_right (by decide) (by omega)))
  simp [this]
theorem fputN (k w v a m : Nat) (hw : w < 18446744073709551616) (h1 : 1 ≤ m) (h2 : a + m ≤ 64) (hz : w / 2 ^ a % 2 ^ m = 0) (hv : v < 2 ^ m) :
  field_Put.f k (w : Int) (a : Int) (m : Int) (v : Int) = some ((w + v * 2 ^ a : Nat) : Int) := by
 have hp : 2 ^ m * 2 ^ a ≤ 2 ^ 64 := by rw [← Nat.pow_add]; exact Nat.pow_le_pow_right (by decide) (by omega)
 have hpos : 0 < 2 ^ a := Nat.two_pow_pos _
 have hposm : 0 < 2 ^ m := Nat.two_pow_pos _
 have hM : (2 ^ m - 1) * 2 ^ a < 2 ^ 64 := Nat.lt_of_lt_of_le (Nat.mul_lt_mul_of_pos_right (by omega : 2 ^ m - 1 < 2 ^ m) hpos) hp
 have hV : v * 2 ^ a < 2 ^ 64 := Nat.lt_of_lt_of_le (Nat.mul_lt_mul_of_pos_right hv hpos) hp
 have sh : ∀ x : Nat, x * 2 ^ a < 2 ^ 64 → IntKind.u64.wrap ((x : Int) * 2 ^ min (a : Int).toNat 64) = ((x * 2 ^ a : Nat) : Int) := fun x hx => by
  rw [Int.toNat_natCast, Nat.min_eq_left (by omega), ← wu64 _ hx, Int.natCast_mul, Int.natCast_pow]
  rfl
 unfold field_Put.f
 rw [fits k a m h1 h2, Option.bind_some, if_neg (by decide), maskE k m (by omega), Option.bind_some, if_neg (by omega), if_neg (by omega), sh _ hM, sh _ hV]
 have e1 : Go.bits .andNot .u64 (w : Int) (((2 ^ m - 1) * 2 ^ a : Nat) : Int) = (w : Int) := by
  rw [bits_andNot w _ hw hM]
  congr 1
  have := keep_part w a m hw hM hz
  rw [show 18446744073709551615 - (2 ^ m - 1) * 2 ^ a = 2 ^ 64 - ((2 ^ m - 1) * 2 ^ a + 1) by omega]
  exact this
 have e2 : Go.bits .and .u64 ((v * 2 ^ a : Nat) : Int) (((2 ^ m - 1) * 2 ^ a : Nat) : Int) = ((v * 2 ^ a : Nat) : Int) := by
  rw [bits_and _ _ hV hM]
  congr 1
  rw [← Nat.shiftLeft_eq, ← Nat.shiftLeft_eq, ← Nat.shiftLeft_and_distrib, Nat.and_two_pow_sub_one_eq_mod, Nat.mod_eq_of_lt hv]
 rw [e1, e2, bits_or _ _ hw hV, or_part w v a m hz hv]
theorem fput (k : Nat) (w v : Int) (a m : Nat) (hw : Wd w) (h1 : 1 ≤ m) (h2 : a + m ≤ 64) (hz : w / 2 ^ a % 2 ^ m = 0) (hv0 : 0 ≤ v) (hv : v < 2 ^ m) :
  field_Put.f k w (a : Int) (m : Int) v = some (w + v * 2 ^ a) := by
 obtain ⟨n, rfl⟩ : ∃ n : Nat, w = n := ⟨w.toNat, by have := hw.1; omega⟩
 obtain ⟨u, rfl⟩ : ∃ u : Nat, v = u := ⟨v.toNat, by omega⟩
 rw [fputN k n u a m (by have := hw.2; omega) h1 h2 (by exact_mod_cast hz) (by exact_mod_cast hv)]
 norm_cast
theorem wu8 {x : Int} (h : (Go.Lit.int .u8 x).wf = true) : 0 ≤ x ∧ x ≤ 255 := by
 have h1 : IntKind.u8.min = 0 := by decide
 have h2 : IntKind.u8.max = 255 := by decide
 simp only [Lit.wf, Bool.and_eq_true, decide_eq_true_eq] at h
 omega
theorem wu16 {x : Int} (h : (Go.Lit.int .u16 x).wf = true) : 0 ≤ x ∧ x ≤ 65535 := by
 have h1 : IntKind.u16.min = 0 := by decide
 have h2 : IntKind.u16.max = 65535 := by decide
 simp only [Lit.wf, Bool.and_eq_true, decide_eq_true_eq] at h
 omega
theorem wuu64 {x : Int} (h : (Go.Lit.int .u64 x).wf = true) : 0 ≤ x ∧ x < 18446744073709551616 := by
 have h1 : IntKind.u64.min = 0 := by decide
 have h2 : IntKind.u64.max = 18446744073709551615 := by decide
 simp only [Lit.wf, Bool.and_eq_true, decide_eq_true_eq] at h
 omega
end Go.Proofs.YtbbpcbjgekencaaGreatDoor.PS
end

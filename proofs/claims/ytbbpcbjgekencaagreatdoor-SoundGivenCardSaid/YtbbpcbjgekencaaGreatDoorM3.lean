import Derived.Test.YtbbpcbjgekencaaGreatDoorM2
section
set_option linter.unusedVariables false
set_option linter.unusedSimpArgs false
set_option linter.unusedVariables false
set_option linter.unusedSimpArgs false
namespace Go.Proofs.YtbbpcbjgekencaaGreatDoor.H
open Go Go.RowKit Go.Proofs.YtbbpcbjgekencaaGreatDoorW.PrintWords Go.Proofs.YtbbpcbjgekencaaGreatDoorW.PrintLast Go.Proofs.YtbbpcbjgekencaaGreatDoorW.PrintMore Go.Proofs.YtbbpcbjgekencaaGreatDoor.Q
attribute [local go_sem] max2_int min2_int max_two min_two max_three min_three max_four min_four
noncomputable def Gl (w : World) : Prop := w.cell? ⟨0, 0, none⟩ = some (.int .i64 4) ∧ w.cell? ⟨0, 1, none⟩ = some (.int .i64 8) ∧ w.cell? ⟨0, 2, none⟩ = some (.int .i64 16)
theorem Gl.below {w W : World} (h : Gl w) (hb : Below w.heap.size w W) : Gl W := ⟨pw_cell_below hb h.1, pw_cell_below hb h.2.1, pw_cell_below hb h.2.2⟩
theorem Gl.drewN {w : World} (h : Gl w) (n : Nat) : Gl (w.drewN n) := h
theorem Gl.drew {w : World} (h : Gl w) : Gl w.drew := h
theorem Gl.alloc {w : World} (h : Gl w) (o : Obj) : Gl (w.alloc o) := h.below ((Below.refl _ w).alloc (Nat.le_refl _) o)
noncomputable def CallsG (n : Nat) (args : Array Value) (w : World) (R : Ending → World → Prop) : Prop := Gl w → Calls Tryz.prog n args w R
theorem CallsG.mono {n : Nat} {args : Array Value} {w : World} {R R' : Ending → World → Prop} (h : CallsG n args w R) (k : ∀ e w', R e w' → R' e w')
  (hG : Gl w := by first | exact HG.out | exact Gl.drewN HG.out _ | exact Gl.below HG.out HB.out | exact Gl.below HG.out (by repeat (first | exact HB.out | exact Below.refl _ _ | apply below_alloc | apply pw_below_drewN | apply below_drew1 | refine below_set ?_ (Aside0.out (by assumption)))) | (repeat (first | exact HG.out | apply Gl.drewN | apply Gl.drew | apply Gl.alloc))) : Calls Tryz.prog n args w R' := (h hG).mono k
theorem gl_of {E : Ev.Env} {w : World} (h : Ev.GlobOk Ev.T E [] w) : Gl w := ⟨(h _ (List.mem_cons_self)).2, (h _ (List.mem_cons_of_mem _ List.mem_cons_self)).2, (h _ (List.mem_cons_of_mem _ (List.mem_cons_of_mem _ List.mem_cons_self))).2⟩
theorem of_gl {E : Ev.Env} {w : World} (h : Gl w) : Ev.GlobOk Ev.T E [] w := fun x hx => ⟨Ev.own_none, by
 have hx : x ∈ Ev.gl0 := hx
 simp only [Ev.gl0, List.mem_cons, List.not_mem_nil, or_false] at hx
 rcases hx with rfl | rfl | rfl
 ·exact h.1
 ·exact h.2.1
 ·exact h.2.2⟩
end Go.Proofs.YtbbpcbjgekencaaGreatDoor.H
end
section
set_option linter.unusedVariables false
set_option linter.unusedSimpArgs false
set_option linter.unusedVariables false
set_option linter.unusedSimpArgs false
set_option maxRecDepth 100000
noncomputable section
namespace Go.Proofs.YtbbpcbjgekencaaGreatDoor.FT
open Go Go.Proofs.YtbbpcbjgekencaaGreatDoor Go.Proofs.YtbbpcbjgekencaaGreatDoor.Ev Go.Proofs.YtbbpcbjgekencaaGreatDoor.Q
open Go.IntKind (i64 u64 u32)
variable (g : List (Nat × Nat × Value))
def r05_Small.f (k : Nat) (a0 a1 a2 : Int) : Option (Int × Int) := (some (i64.wrap (i64.wrap (i64.wrap (10 + i64.wrap (73 * i64.wrap (1 + i64.wrap (a0.tmod 64)))) + i64.wrap (33 * i64.wrap (1 + i64.wrap (a1.tmod 200)))) + i64.wrap (a2.tmod 33)), i64.wrap (1 + i64.wrap (a0.tmod 64))))
def r05_Small.o : FnOk (Tg g) Tryz.prog := mkO (tab_ok g) 53 Tryz.func53 [] [] [tc qY, tc qY, tc qY] [] (ta [qI, qI]) [] r05_Small.f []
def r15_Geometry.f (k : Nat) (a0_0 a0_1 : Int) (a0_2 a0_3 : List Int) (a0_4 : List S94) (a0_5 a0_6 : Int) (a0_7 : List S35) : Option (Int × Int) := ((r05_Small.f k (a0_0.tmod 3) (a0_1.tmod 8) 0).bind fun y0 => (some (y0.fst, y0.snd)))
def r15_Geometry.o : FnOk (Tg g) Tryz.prog := mkO (tab_ok g) 22 Tryz.func22 [r05_Small.o g] [] [ta [qY, qY, (qf 32), (qf 33), (qf 94), qU, qU, (qf 35)]] [] (ta [qI, qI]) [] r15_Geometry.f []
def r05_Chunks.c6 : Nat → Int → Int → Int → Option Int
 | 0, _, _, _ => none
 | k + 1, a, b, c => (if decide (i64.wrap (i64.wrap (10 + i64.wrap (73 * c)) + i64.wrap (33 * i64.wrap (a + 1))) ≤ b) = true then (r05_Chunks.c6 k (i64.wrap (a + 1)) (b) (c)) else (some (a)))
def r05_Chunks.f (k : Nat) (a0_0 a0_1 : Int) : Option Int := (if decide (a0_1 < 1) = false then (if decide (a0_1 > 64) = false then (if decide (a0_0 > 65536) = true then (some (0)) else (r05_Chunks.c6 k (0) (a0_0) (a0_1))) else (some (0))) else (some (0)))
def r05_Chunks.o : FnOk (Tg g) Tryz.prog := mkO (tab_ok g) 59 Tryz.func59 [] [] [ta [qI, qI]] [] (tc qI) [] r05_Chunks.f [mkC Int 6 31 [(1, tc (qb 0)), (3, tc qI)] [(0, .box 51 [qI, qI])] 0 [0, 1, 2] r05_Chunks.c6]
def r05_Right.f (k : Nat) (a0_0 a0_1 : Int) : Option Bool := ((r05_Chunks.f k a0_0 a0_1).bind fun y0 => (some (decide (y0 ≥ 1))))
def r05_Right.o : FnOk (Tg g) Tryz.prog := mkO (tab_ok g) 58 Tryz.func58 [r05_Chunks.o g] [] [ta [qI, qI]] [] (tc qB) [] r05_Right.f []
mutual
def r02_xor.c5 : Nat → Int → Int → Int → Int → Int → Option Int
 | 0, _, _, _, _, _ => none
 | k + 1, a, b, c, d, e => (if decide (e < 32) = true then (if d = 0 then none else (if d = 0 then none else (if ((u32.wrap (a.tdiv d)).tmod 2 != (u32.wrap (b.tdiv d)).tmod 2) = true then (r02_xor.c9 k (a) (b) (u32.wrap (c + d)) (d) (e)) else (r02_xor.c9 k (a) (b) (c) (d) (e))))) else (some (c)))
def r02_xor.c9 : Nat → Int → Int → Int → Int → Int → Option Int
 | 0, _, _, _, _, _ => none
 | k + 1, a, b, c, d, e => (if decide (e < 31) = true then (r02_xor.c8 k (a) (b) (c) (u32.wrap (2 * d)) (e)) else (r02_xor.c8 k (a) (b) (c) (d) (e)))
def r02_xor.c8 : Nat → Int → Int → Int → Int → Int → Option Int
 | 0, _, _, _, _, _ => none
 | k + 1, a, b, c, d, e => (r02_xor.c5 k (a) (b) (c) (d) (i64.wrap (e + 1)))
end
def r02_xor.f (k : Nat) (a0 a1 : Int) : Option Int := (r02_xor.c5 k (a0) (a1) (0) (1) (0))
def r02_xor.o : FnOk (Tg g) Tryz.prog := mkO (tab_ok g) 120 Tryz.func120 [] [] [tc qW, tc qW] [] (tc qW) [] r02_xor.f [mkC Int 5 29 [(0, tc qW), (1, tc qW), (5, tc qW), (6, tc qW), (7, tc qI)] [] 0 [0, 1, 2, 3, 4] r02_xor.c5, mkC Int 9 29 [(0, tc qW), (1, tc qW), (5, tc qW), (6, tc qW), (7, tc qI)] [] 0 [0, 1, 2, 3, 4] r02_xor.c9, mkC Int 8 29 [(0, tc qW), (1, tc qW), (5, tc qW), (6, tc qW), (7, tc qI)] [] 0 [0, 1, 2, 3, 4] r02_xor.c8]
mutual
def r02_On.c3 : Nat → Int → Int → Int → Option Int
 | 0, _, _, _ => none
 | k + 1, a, b, c => (if decide (c < 64) = true then (if (u64.wrap (a.tmod 2) != b.tmod 2) = true then ((r02_xor.f k (u32.wrap (a.tdiv 2)) 3988292384).bind fun y0 => (r02_On.c9 k (y0) (b) (c))) else (r02_On.c9 k (u32.wrap (a.tdiv 2)) (b) (c))) else (some (a)))
def r02_On.c9 : Nat → Int → Int → Int → Option Int
 | 0, _, _, _ => none
 | k + 1, a, b, c => (r02_On.c3 k (a) (u64.wrap (b.tdiv 2)) (i64.wrap (c + 1)))
end
def r02_On.f (k : Nat) (a0 a1 : Int) : Option Int := (r02_On.c3 k (a0) (a1) (0))
def r02_On.o : FnOk (Tg g) Tryz.prog := mkO (tab_ok g) 105 Tryz.func105 [r02_xor.o g] [] [tc qW, tc qU] [] (tc qW) [] r02_On.f [mkC Int 3 25 [(0, tc qW), (1, tc qU), (5, tc qI)] [] 0 [0, 1, 2] r02_On.c3, mkC Int 9 25 [(0, tc qW), (1, tc qU), (5, tc qI)] [] 0 [0, 1, 2] r02_On.c9]
def r02_More.c4 : Nat → List Int → Int → Int → Option Int
 | 0, _, _, _ => none
 | k + 1, a, b, c => (if decide (c < (a.length : Int)) = true then (if 0 ≤ c then (if c < (a.length : Int) then ((r02_On.f k b (a.getD c.toNat 0)).bind fun y0 => (r02_More.c4 k (a) (y0) (i64.wrap (c + 1)))) else none) else none) else (some (u32.wrap (4294967295 - b))))
def r02_More.f (k : Nat) (a0 : Int) (a1 : List Int) : Option Int := (r02_More.c4 k (a1) (u32.wrap (4294967295 - a0)) (0))
def r02_More.o : FnOk (Tg g) Tryz.prog := mkO (tab_ok g) 82 Tryz.func82 [r02_On.o g] [] [tc qW, tc (qf 33)] [] (tc qW) [] r02_More.f [mkC Int 4 23 [(1, tc (qf 33)), (5, tc qW), (6, tc qI)] [] 0 [0, 1, 2] r02_More.c4]
def r02_Of.f (k : Nat) (a0 : List Int) : Option Int := ((r02_More.f k 0 a0).bind fun y0 => (some (y0)))
def r02_Of.o : FnOk (Tg g) Tryz.prog := mkO (tab_ok g) 52 Tryz.func52 [r02_More.o g] [] [tc (qf 33)] [] (tc qW) [] r02_Of.f []
def r06_Encode.c9 : Nat → Int → ByteArray → Int → Int → Int → Option (Int × List Int)
 | 0, _, _, _, _, _ => none
 | k + 1, a, b, c, d, e => (if decide (c < (b.size : Int)) = true then (if 0 ≤ c then (if c < (b.data.toList.length : Int) then (r06_Encode.c9 k (u64.wrap (u64.wrap (256 * a) + u64.wrap (bt b c))) (b) (i64.wrap (c + 1)) (d) (e)) else none) else none) else ((r05_Chunks.f k d e).bind fun y1 => ((r02_Of.f k [a, 1, u64.wrap d, u64.wrap e, u64.wrap y1, 0, 0]).bind fun y2 => (some (0, [a, 1, u64.wrap d, u64.wrap e, u64.wrap y1, 0, 0] ++ [u64.wrap y2])))))
def r06_Encode.f (k : Nat) (a0_0 a0_1 : Int) : Option (Int × List Int) := ((r05_Right.f k a0_0 a0_1).bind fun y0 => (if (!y0) = true then (some (1, [])) else (r06_Encode.c9 k (0) (ByteArray.mk (Array.mk [84, 83, 65, 70, 75, 67, 79, 76])) (0) (a0_0) (a0_1))))
def r06_Encode.o : FnOk (Tg g) Tryz.prog := mkO (tab_ok g) 42 Tryz.func42 [r05_Right.o g, r05_Chunks.o g, r02_Of.o g] [] [ta [qI, qI]] [] (.tup [.cell (qo 0), .cell qI]) [(0, qr 33)] r06_Encode.f [mkC (Int × List Int) 9 43 [(1, tc (qb 0)), (5, tc qU), (6, tc qS), (7, tc qI)] [(0, .box 51 [qI, qI])] 0 [0, 1, 2, 3, 4] r06_Encode.c9]
def r15_put.c1 : Nat → Int → List Int → Int → List Int → Option (List Int)
 | 0, _, _, _, _ => none
 | k + 1, a, b, c, d => (if decide (c < (b.length : Int)) = true then (if decide (i64.wrap (a + c) < (d.length : Int)) = true then (if 0 ≤ c then (if c < (b.length : Int) then (if 0 ≤ i64.wrap (a + c) then (if i64.wrap (a + c) < (d.length : Int) then (if (i64.wrap (a + c)).toNat < d.length then (r15_put.c1 k (a) (b) (i64.wrap (c + 1)) (d.set (i64.wrap (a + c)).toNat (b.getD c.toNat 0))) else none) else none) else none) else none) else none) else (some (d))) else (some (d)))
def r15_put.f (k : Nat) (a1 : Int) (a2 m0 : List Int) : Option (List Int) := (r15_put.c1 k (a1) (a2) (0) (m0))
def r15_put.o : FnOk (Tg g) Tryz.prog := mkO (tab_ok g) 43 Tryz.func43 [] [0] [tc (qo 0), tc qI, tc (qf 33)] [(0, qr 33)] (.tup []) [(0, qr 33)] r15_put.f [mkC (List Int) 1 30 [(0, tc (qo 0)), (1, tc qI), (2, tc (qf 33)), (6, tc qI)] [(0, qr 33)] 1 [0, 1, 2, 3] r15_put.c1]
def r05_Table.f (k : Nat) (a0_0 a0_1 : Int) : Option (Int × Int) := ((r05_Right.f k a0_0 a0_1).bind fun y0 => (if (!y0) = true then (some (0, 0)) else ((r05_Chunks.f k a0_0 a0_1).bind fun y1 => (some (i64.wrap (10 + i64.wrap (73 * a0_1)), y1)))))
def r05_Table.o : FnOk (Tg g) Tryz.prog := mkO (tab_ok g) 25 Tryz.func25 [r05_Right.o g, r05_Chunks.o g] [] [ta [qI, qI]] [] (ta [qI, qI]) [] r05_Table.f []
def r09_Block.f (k : Nat) (a0 : Int) : Option Int := (if (a0 == 0) = true then (some (4)) else (if (a0 == 1) = true then (some (8)) else (if (a0 == 2) = true then (some (16)) else (some (0)))))
def r09_Block.o : FnOk (Tg g) Tryz.prog := mkO (tab_ok g) 57 Tryz.func57 [] [] [tc qI] [] (tc qI) [] r09_Block.f []
def r09_Many.c3 : Nat → Int → Int → Option Int
 | 0, _, _ => none
 | k + 1, a, b => ((r09_Block.f k a).bind fun y0 => (if decide (y0 > 0) = true then ((r09_Block.f k a).bind fun y1 => (if decide (i64.wrap (i64.wrap (b + 1) * y1) ≤ 32) = true then (r09_Many.c3 k (a) (i64.wrap (b + 1))) else (some (b)))) else (some (b))))
def r09_Many.f (k : Nat) (a0 : Int) : Option Int := (r09_Many.c3 k (a0) (0))
def r09_Many.o : FnOk (Tg g) Tryz.prog := mkO (tab_ok g) 55 Tryz.func55 [r09_Block.o g] [] [tc qI] [] (tc qI) [] r09_Many.f [mkC Int 3 18 [(0, tc qI), (3, tc qI)] [] 0 [0, 1] r09_Many.c3]
def r10_power.c4 : Nat → Int → Int → Int → Option Int
 | 0, _, _, _ => none
 | k + 1, a, b, c => (if decide (c < a) = true then (r10_power.c4 k (a) (u64.wrap (2 * b)) (i64.wrap (c + 1))) else (some (b)))
def r10_power.f (k : Nat) (a0 : Int) : Option Int := (r10_power.c4 k (a0) (1) (0))
def r10_power.o : FnOk (Tg g) Tryz.prog := mkO (tab_ok g) 84 Tryz.func84 [] [] [tc qI] [] (tc qU) [] r10_power.f [mkC Int 4 13 [(0, tc qI), (3, tc qU), (4, tc qI)] [] 0 [0, 1, 2] r10_power.c4]
def r10_Right.c3 : Nat → Int → Bool → Int → Int → Int → Int → Int → Option Bool
 | 0, _, _, _, _, _, _, _ => none
 | k + 1, a, b, c, d, e, g, h => (if b = true then (some (c == c && (d == 0 && (e == 0 && (g == 0 && h == 0))))) else (if (a == 1) = true then (if (c == 1 && (d == d && (e == 0 && (g == 0 && h == h)))) = true then (if decide (d ≥ 0) = true then (if decide (d ≤ 2) = true then ((r09_Many.f k d).bind fun y0 => ((r10_power.f k y0).bind fun y1 => (some (decide (h < y1))))) else (some (false))) else (some (false))) else (some (false))) else (if (a == 2) = true then (if (c == 2 && (d == 0 && (e == 0 && (g == g && h == 0)))) = true then (if decide (g ≥ 1) = true then (some (decide (g ≤ 8191))) else (some (false))) else (some (false))) else (if (a == 4) = true then (if (c == 4 && (d == 0 && (e == e && (g == g && h == 0)))) = true then (if decide (e ≥ 0) = true then (if decide (e ≤ 63) = true then (if decide (g ≥ 0) = true then (some (decide (g ≤ 7))) else (some (false))) else (some (false))) else (some (false))) else (some (false))) else (some (false))))))
def r10_Right.f (k : Nat) (a0_0 a0_1 a0_2 a0_3 a0_4 : Int) : Option Bool := (if (a0_0 == 0) = true then (r10_Right.c3 k (a0_0) (a0_0 == 0) (a0_0) (a0_1) (a0_2) (a0_3) (a0_4)) else (r10_Right.c3 k (a0_0) (a0_0 == 3) (a0_0) (a0_1) (a0_2) (a0_3) (a0_4)))
def r10_Right.o : FnOk (Tg g) Tryz.prog := mkO (tab_ok g) 104 Tryz.func104 [r10_power.o g, r09_Many.o g] [] [ta [qI, qI, qI, qI, qU]] [] (tc qB) [] r10_Right.f [mkC Bool 3 87 [(1, tc (qb 0)), (4, tc qI), (5, tc qB)] [(0, .box 114 [qI, qI, qI, qI, qU])] 0 [0, 1, 2, 3, 4, 5, 6] r10_Right.c3]
def r10_Encode.f (k : Nat) (a0_0 a0_1 a0_2 a0_3 a0_4 : Int) : Option (Int × Int) := ((r10_Right.f k a0_0 a0_1 a0_2 a0_3 a0_4).bind fun y0 => (if (!y0) = true then (some (0, 1)) else (some (u64.wrap (u64.wrap (u64.wrap (u64.wrap (u64.wrap a0_0 + u64.wrap (8 * u64.wrap a0_1)) + u64.wrap (32 * u64.wrap a0_2)) + u64.wrap (2048 * u64.wrap a0_3)) + u64.wrap (16777216 * a0_4)), 0))))
def r10_Encode.o : FnOk (Tg g) Tryz.prog := mkO (tab_ok g) 76 Tryz.func76 [r10_Right.o g] [] [ta [qI, qI, qI, qI, qU]] [] (.tup [.cell qU, .cell qI]) [] r10_Encode.f []
mutual
def r11_Made.c4 : Nat → List Int → Int → Int → List Int → Option (List Int)
 | 0, _, _, _, _ => none
 | k + 1, a, b, c, d => (if decide (c < (a.length : Int)) = true then (if decide ((d.length : Int) < b) = true then (if 0 ≤ c then (if c < (a.length : Int) then (if ((i64.wrap (a.getD c.toNat 0)).tmod 6 == 1) = true then (r11_Made.c12 k (a) (b) (c) (i64.wrap (a.getD c.toNat 0)) ((i64.wrap (a.getD c.toNat 0)).tmod 6) ((i64.wrap (a.getD c.toNat 0)).tmod 6 == 1) (d) (0) (0) (0) (0) (0)) else (r11_Made.c12 k (a) (b) (c) (i64.wrap (a.getD c.toNat 0)) ((i64.wrap (a.getD c.toNat 0)).tmod 6) ((i64.wrap (a.getD c.toNat 0)).tmod 6 == 2) (d) (0) (0) (0) (0) (0))) else none) else none) else (some (d))) else (some (d)))
def r11_Made.c12 : Nat → List Int → Int → Int → Int → Int → Bool → List Int → Int → Int → Int → Int → Int → Option (List Int)
 | 0, _, _, _, _, _, _, _, _, _, _, _, _ => none
 | k + 1, a, b, c, d, e, g, h, i, j, l, m, n => (if g = true then ((r09_Many.f k ((i64.wrap (d.tdiv 8)).tmod 3)).bind fun y0 => (if y0 < 0 then none else (if u64.wrap (1 * 2 ^ min y0.toNat 64) = 0 then none else (r11_Made.c10 k (a) (b) (c) (h) (1) ((i64.wrap (d.tdiv 8)).tmod 3) (0) (0) ((u64.wrap (i64.wrap (d.tdiv 32))).tmod (u64.wrap (1 * 2 ^ min y0.toNat 64))))))) else (if (e == 3) = true then (r11_Made.c10 k (a) (b) (c) (h) (2) (0) (0) (i64.wrap (1 + (i64.wrap (d.tdiv 8)).tmod 4)) (0)) else (if (e == 4) = true then (r11_Made.c10 k (a) (b) (c) (h) (1) ((i64.wrap (d.tdiv 8)).tmod 3) (0) (0) (0)) else (if (e == 5) = true then (r11_Made.c10 k (a) (b) (c) (h) (4) (0) ((i64.wrap (d.tdiv 8)).tmod 3) ((i64.wrap (d.tdiv 32)).tmod 8) (0)) else (r11_Made.c10 k (a) (b) (c) (h) (i) (j) (l) (m) (n))))))
def r11_Made.c10 : Nat → List Int → Int → Int → List Int → Int → Int → Int → Int → Int → Option (List Int)
 | 0, _, _, _, _, _, _, _, _, _ => none
 | k + 1, a, b, c, d, e, g, h, i, j => (if decide (i64.wrap ((d.length : Int) + mx 1 i) > b) = true then (if (e == 2) = true then (r11_Made.c18 k (a) (b) (c) (d) (0) (0) (0) (0) (0)) else (r11_Made.c18 k (a) (b) (c) (d) (e) (g) (h) (i) (j))) else (r11_Made.c18 k (a) (b) (c) (d) (e) (g) (h) (i) (j)))
def r11_Made.c18 : Nat → List Int → Int → Int → List Int → Int → Int → Int → Int → Int → Option (List Int)
 | 0, _, _, _, _, _, _, _, _, _ => none
 | k + 1, a, b, c, d, e, g, h, i, j => ((r10_Encode.f k e g h i j).bind fun y1 => (if d.length + [y1.fst].length ≤ big then (r11_Made.c23 k (a) (b) (c) (1) (d ++ [y1.fst]) (e) (i)) else none))
def r11_Made.c23 : Nat → List Int → Int → Int → Int → List Int → Int → Int → Option (List Int)
 | 0, _, _, _, _, _, _, _ => none
 | k + 1, a, b, c, d, e, g, h => (if (g == 2) = true then (if decide (d < h) = true then (if e.length + [3].length ≤ big then (r11_Made.c23 k (a) (b) (c) (i64.wrap (d + 1)) (e ++ [3]) (g) (h)) else none) else (r11_Made.c4 k (a) (b) (i64.wrap (c + 1)) (e))) else (r11_Made.c4 k (a) (b) (i64.wrap (c + 1)) (e)))
end
def r11_Made.f (k : Nat) (a0 : List Int) (a1 : Int) : Option (List Int) := (r11_Made.c4 k (a0) (a1) (0) ([]))
def r11_Made.o : FnOk (Tg g) Tryz.prog := mkO (tab_ok g) 44 Tryz.func44 [r09_Many.o g, r10_Encode.o g] [] [tc (qf 32), tc qI] [] (tc (qo 0)) [(0, qr 33)] r11_Made.f [mkC (List Int) 4 110 [(0, tc (qf 32)), (1, tc qI), (5, tc (qo 0)), (6, tc qI)] [(0, qr 33)] 0 [0, 1, 2, 3] r11_Made.c4, mkC (List Int) 12 110 [(0, tc (qf 32)), (1, tc qI), (5, tc (qo 0)), (6, tc qI), (7, tc qI), (8, tc (qb 1)), (17, tc (qo 0)), (18, tc qI), (19, tc qI), (20, tc qB), (31, tc qI), (32, tc qB)] [(0, qr 33), (1, .box 114 [qI, qI, qI, qI, qU])] 0 [0, 1, 2, 3, 7, 8, 9, 10, 11, 12, 13, 14] r11_Made.c12, mkC (List Int) 10 110 [(0, tc (qf 32)), (1, tc qI), (5, tc (qo 0)), (6, tc qI), (8, tc (qb 1)), (17, tc (qo 0)), (18, tc qI), (19, tc qI), (20, tc qB)] [(0, qr 33), (1, .box 114 [qI, qI, qI, qI, qU])] 0 [0, 1, 2, 6, 7, 8, 9, 10, 11] r11_Made.c10, mkC (List Int) 18 110 [(0, tc (qf 32)), (1, tc qI), (5, tc (qo 0)), (6, tc qI), (8, tc (qb 1)), (17, tc (qo 0)), (18, tc qI), (19, tc qI), (20, tc qB)] [(0, qr 33), (1, .box 114 [qI, qI, qI, qI, qU])] 0 [0, 1, 2, 6, 7, 8, 9, 10, 11] r11_Made.c18, mkC (List Int) 23 110 [(0, tc (qf 32)), (1, tc qI), (5, tc (qo 0)), (6, tc qI), (8, tc (qb 1)), (11, tc qI), (18, tc qI), (19, tc qI), (20, tc qB)] [(0, qr 33), (1, .box 114 [qI, qI, qI, qI, qU])] 0 [0, 1, 2, 3, 7, 8, 11] r11_Made.c23]
def r13_Right.f (k : Nat) (a0_0 : Int) (a0_1 : List Int) : Option Bool := (if decide (a0_0 ≥ 0) = true then (if decide (a0_0 ≤ 65535) = true then (if decide ((a0_1.length : Int) > 0) = true then (some (decide ((a0_1.length : Int) ≤ 4096))) else (some (false))) else (some (false))) else (some (false)))
def r13_Right.o : FnOk (Tg g) Tryz.prog := mkO (tab_ok g) 77 Tryz.func77 [] [] [ta [qI, (qf 33)]] [] (tc qB) [] r13_Right.f []
def r13_Encode.f (k : Nat) (a0 a1_0 : Int) (a1_1 : List Int) : Option (Int × List Int) := ((r13_Right.f k a1_0 a1_1).bind fun y0 => (if (!y0) = true then (some (1, [])) else (if [u64.wrap (u64.wrap (u64.wrap a1_0 + u64.wrap (1048576 * u64.wrap (a1_1.length : Int))) + u64.wrap (281474976710656 * a0.tmod 65536))].length + a1_1.length ≤ big then ((r02_Of.f k ([u64.wrap (u64.wrap (u64.wrap a1_0 + u64.wrap (1048576 * u64.wrap (a1_1.length : Int))) + u64.wrap (281474976710656 * a0.tmod 65536))] ++ a1_1)).bind fun y1 => (if ([u64.wrap (u64.wrap (u64.wrap a1_0 + u64.wrap (1048576 * u64.wrap (a1_1.length : Int))) + u64.wrap (281474976710656 * a0.tmod 65536))] ++ a1_1).length + [u64.wrap y1].length ≤ big then (some (0, [u64.wrap (u64.wrap (u64.wrap a1_0 + u64.wrap (1048576 * u64.wrap (a1_1.length : Int))) + u64.wrap (281474976710656 * a0.tmod 65536))] ++ a1_1 ++ [u64.wrap y1])) else none)) else none)))
def r13_Encode.o : FnOk (Tg g) Tryz.prog := mkO (tab_ok g) 45 Tryz.func45 [r13_Right.o g, r02_Of.o g] [] [tc qU, ta [qI, (qf 33)]] [] (.tup [.cell (qo 0), .cell qI]) [(0, qr 33)] r13_Encode.f []
mutual
def r14_Places.c4 : Nat → List S57 → Int → List Int → Option (List Int)
 | 0, _, _, _ => none
 | k + 1, a, b, c => (if decide (b < (a.length : Int)) = true then (r14_Places.c9 k (a) (b) (0) (c)) else (some (c)))
def r14_Places.c9 : Nat → List S57 → Int → Int → List Int → Option (List Int)
 | 0, _, _, _, _ => none
 | k + 1, a, b, c, d => (if 0 ≤ b then (if b < (a.length : Int) then (if decide (c < (a.getD b.toNat z57).f1) = true then (if 0 ≤ b then (if b < (a.length : Int) then (if d.length + [i64.wrap ((a.getD b.toNat z57).f0 + c)].length ≤ big then (r14_Places.c9 k (a) (b) (i64.wrap (c + 1)) (d ++ [i64.wrap ((a.getD b.toNat z57).f0 + c)])) else none) else none) else none) else (r14_Places.c4 k (a) (i64.wrap (b + 1)) (d))) else none) else none)
end
def r14_Places.f (k : Nat) (a0 : List S57) : Option (List Int) := (r14_Places.c4 k (a0) (0) ([]))
def r14_Places.o : FnOk (Tg g) Tryz.prog := mkO (tab_ok g) 78 Tryz.func78 [] [] [tc (qf 57)] [] (tc (qo 0)) [(0, qr 3)] r14_Places.f [mkC (List Int) 4 32 [(0, tc (qf 57)), (3, tc (qo 0)), (4, tc qI)] [(0, qr 3)] 0 [0, 1, 2] r14_Places.c4, mkC (List Int) 9 32 [(0, tc (qf 57)), (3, tc (qo 0)), (4, tc qI), (5, tc qI)] [(0, qr 3)] 0 [0, 1, 2, 3] r14_Places.c9]
mutual
def r14_Scatter.c5 : Nat → List Int → Int → List Int → List Int → Option (List Int)
 | 0, _, _, _, _ => none
 | k + 1, a, b, c, d => (if decide (b < (d.length : Int)) = true then (if decide (b < (a.length : Int)) = true then (if 0 ≤ b then (if b < (d.length : Int) then (if b.toNat < d.length then (if decide ((d).getD b.toNat 0 < (c.length : Int)) = true then (if 0 ≤ b then (if b < (d.length : Int) then (if b.toNat < d.length then (if 0 ≤ b then (if b < (a.length : Int) then (if 0 ≤ d.getD b.toNat 0 then (if d.getD b.toNat 0 < (c.length : Int) then (if Int.toNat (d.getD b.toNat 0) < c.length then (r14_Scatter.c8 k (a) (b) (c.set (Int.toNat (d.getD b.toNat 0)) (a.getD b.toNat 0)) (d)) else none) else none) else none) else none) else none) else none) else none) else none) else (r14_Scatter.c8 k (a) (b) (c) (d))) else none) else none) else none) else (some (c))) else (some (c)))
def r14_Scatter.c8 : Nat → List Int → Int → List Int → List Int → Option (List Int)
 | 0, _, _, _, _ => none
 | k + 1, a, b, c, d => (r14_Scatter.c5 k (a) (i64.wrap (b + 1)) (c) (d))
end
def r14_Scatter.f (k : Nat) (a0 : List Int) (a1 : List S57) (a2 : List Int) : Option (List Int) := (if 0 + a0.length ≤ big then ((r14_Places.f k a1).bind fun y0 => (r14_Scatter.c5 k (a2) (0) ([] ++ a0) (y0))) else none)
def r14_Scatter.o : FnOk (Tg g) Tryz.prog := mkO (tab_ok g) 46 Tryz.func46 [r14_Places.o g] [] [tc (qf 33), tc (qf 57), tc (qf 33)] [] (tc (qo 0)) [(0, qr 33)] r14_Scatter.f [mkC (List Int) 5 45 [(2, tc (qf 33)), (7, tc (qo 0)), (8, tc (qo 1)), (9, tc qI)] [(0, qr 33), (1, qr 3)] 0 [0, 1, 2, 3] r14_Scatter.c5, mkC (List Int) 8 45 [(2, tc (qf 33)), (7, tc (qo 0)), (8, tc (qo 1)), (9, tc qI), (20, tc qI), (21, tc (qf 33)), (22, tc qI), (23, tc qB)] [(0, qr 33), (1, qr 3)] 0 [0, 1, 6, 7] r14_Scatter.c8]
mutual
def r06_Decode.c3 : Nat → List Int → Int → Option (Int × Int × Int)
 | 0, _, _ => none
 | k + 1, a, b => (if decide (b ≤ 64) = true then (if decide ((a.length : Int) ≥ 8) = true then ((r06_Encode.f k (a.length : Int) b).bind fun y0 => (r06_Decode.c12 k (a) (b) (y0.fst == 0) (0) ((a.length : Int)) (b) (y0.snd))) else (some (0, 0, 7))) else (some (0, 0, 7)))
def r06_Decode.c12 : Nat → List Int → Int → Bool → Int → Int → Int → List Int → Option (Int × Int × Int)
 | 0, _, _, _, _, _, _, _ => none
 | k + 1, a, b, c, d, e, g, h => (if c = true then (if decide (d < 8) = true then (if 0 ≤ d then (if d < (h.length : Int) then (if d.toNat < h.length then (if 0 ≤ d then (if d < (a.length : Int) then (r06_Decode.c12 k (a) (b) (h.getD d.toNat 0 == a.getD d.toNat 0) (i64.wrap (d + 1)) (e) (g) (h)) else none) else none) else none) else none) else none) else (if c = true then (some (e, g, 0)) else (r06_Decode.c3 k (a) (i64.wrap (b + 1))))) else (if c = true then (some (e, g, 0)) else (r06_Decode.c3 k (a) (i64.wrap (b + 1)))))
end
def r06_Decode.f (k : Nat) (a0 : List Int) : Option (Int × Int × Int) := (r06_Decode.c3 k (a0) (1))
def r06_Decode.o : FnOk (Tg g) Tryz.prog := mkO (tab_ok g) 32 Tryz.func32 [r06_Encode.o g] [] [tc (qf 33)] [] (.tup [.agg [qI, qI], .cell qI]) [] r06_Decode.f [mkC (Int × Int × Int) 3 49 [(0, tc (qf 33)), (2, tc (qb 0)), (4, tc qI)] [(0, .box 51 [qI, qI])] 0 [0, 1] r06_Decode.c3, mkC (Int × Int × Int) 12 49 [(0, tc (qf 33)), (2, tc (qb 0)), (4, tc qI), (5, tc (qb 1)), (6, tc (qo 2)), (8, tc qB), (9, tc qI), (13, tc (qf 33)), (14, tc qI), (15, tc qB)] [(0, .box 51 [qI, qI]), (1, .box 51 [qI, qI]), (2, qr 33)] 0 [0, 1, 2, 3, 9, 10, 11] r06_Decode.c12]
def r10_Decode.f (k : Nat) (a0 : Int) : Option (Int × Int × Int × Int × Int × Bool) := ((r10_Right.f k (i64.wrap (a0.tmod 8)) (i64.wrap ((u64.wrap (a0.tdiv 8)).tmod 4)) (i64.wrap ((u64.wrap (a0.tdiv 32)).tmod 64)) (i64.wrap ((u64.wrap (a0.tdiv 2048)).tmod 8192)) ((u64.wrap (a0.tdiv 16777216)).tmod 256)).bind fun y0 => (if (!y0) = false then (if (u64.wrap (a0.tdiv 4294967296) != 0) = true then (some (0, 0, 0, 0, 0, false)) else (some (i64.wrap (a0.tmod 8), i64.wrap ((u64.wrap (a0.tdiv 8)).tmod 4), i64.wrap ((u64.wrap (a0.tdiv 32)).tmod 64), i64.wrap ((u64.wrap (a0.tdiv 2048)).tmod 8192), (u64.wrap (a0.tdiv 16777216)).tmod 256, true))) else (some (0, 0, 0, 0, 0, false))))
def r10_Decode.o : FnOk (Tg g) Tryz.prog := mkO (tab_ok g) 83 Tryz.func83 [r10_Right.o g] [] [tc qU] [] (.tup [.agg [qI, qI, qI, qI, qU], .cell qB]) [] r10_Decode.f []
def r11_Chunks.c4 : Nat → List Int → Int → List S114 → Option (Bool × List S114)
 | 0, _, _, _ => none
 | k + 1, a, b, c => (if decide (b < (a.length : Int)) = true then (if 0 ≤ b then (if b < (a.length : Int) then ((r10_Decode.f k (a.getD b.toNat 0)).bind fun y0 => (if (!y0.snd.snd.snd.snd.snd) = true then (some (false, [])) else (if c.length + [S114.mk y0.fst y0.snd.fst y0.snd.snd.fst y0.snd.snd.snd.fst y0.snd.snd.snd.snd.fst].length ≤ big then (r11_Chunks.c4 k (a) (i64.wrap (b + 1)) (c ++ [S114.mk y0.fst y0.snd.fst y0.snd.snd.fst y0.snd.snd.snd.fst y0.snd.snd.snd.snd.fst])) else none))) else none) else none) else (some (true, c)))
def r11_Chunks.f (k : Nat) (a0 : List Int) : Option (Bool × List S114) := (r11_Chunks.c4 k (a0) (0) ([]))
def r11_Chunks.o : FnOk (Tg g) Tryz.prog := mkO (tab_ok g) 54 Tryz.func54 [r10_Decode.o g] [] [tc (qf 33)] [] (.tup [.cell (qo 0), .cell qB]) [(0, qr 114)] r11_Chunks.f [mkC (Bool × List S114) 4 29 [(0, tc (qf 33)), (4, tc (qo 0)), (5, tc qI)] [(0, qr 114)] 0 [0, 1, 2] r11_Chunks.c4]
def r15_Part.f (k : Nat) (a0 : List Int) (a1_0 a1_1 : Int) : Option (List Int) := (if 0 ≤ a1_0 then (if a1_0 ≤ i64.wrap (a1_0 + a1_1) then (if i64.wrap (a1_0 + a1_1) ≤ (a0.length : Int) then (some (List.drop a1_0.toNat (List.take (i64.wrap (a1_0 + a1_1)).toNat a0))) else none) else none) else none)
def r15_Part.o : FnOk (Tg g) Tryz.prog := mkO (tab_ok g) 24 Tryz.func24 [] [] [tc (qf 33), ta [qI, qI]] [] (tc (qf 33)) [] r15_Part.f []
def r15_Pool.f (k : Nat) (a0 : List Int) (a1_0 a1_1 a2 : Int) : Option Bool := ((r06_Decode.f k a0).bind fun y0 => (if (y0.snd.snd != 0) = false then (if (!(y0.fst == a1_0 && y0.snd.fst == a1_1)) = false then (if decide (a2 < 0) = false then (if decide (a2 ≥ a1_1) = true then (some (false)) else ((r05_Table.f k a1_0 a1_1).bind fun y1 => ((r15_Part.f k a0 y1.fst y1.snd).bind fun y2 => ((r11_Chunks.f k y2).bind fun y3 => (some (y3.fst)))))) else (some (false))) else (some (false))) else (some (false))))
def r15_Pool.o : FnOk (Tg g) Tryz.prog := mkO (tab_ok g) 79 Tryz.func79 [r06_Decode.o g, r11_Chunks.o g, r15_Part.o g, r05_Table.o g] [] [tc (qf 33), ta [qI, qI], tc qI] [] (tc qB) [] r15_Pool.f []
def r05_Log.f (k : Nat) (a0_0 a0_1 a1 : Int) : Option (Int × Int) := ((r05_Right.f k a0_0 a0_1).bind fun y0 => (if (!y0) = false then (if decide (a1 < 0) = false then (if decide (a1 ≥ a0_1) = true then (some (0, 0)) else (some (i64.wrap (i64.wrap (10 + a0_1) + i64.wrap (72 * a1)), 32))) else (some (0, 0))) else (some (0, 0))))
def r05_Log.o : FnOk (Tg g) Tryz.prog := mkO (tab_ok g) 80 Tryz.func80 [r05_Right.o g] [] [ta [qI, qI], tc qI] [] (ta [qI, qI]) [] r05_Log.f []
mutual
def r11_Logs.c5 : Nat → Int → Int → List S114 → List Int → Option (List Int)
 | 0, _, _, _, _ => none
 | k + 1, a, b, c, d => (if decide (b < 8) = true then (r11_Logs.c10 k (a) (b) (0) (c) (d)) else (some (d)))
def r11_Logs.c10 : Nat → Int → Int → Int → List S114 → List Int → Option (List Int)
 | 0, _, _, _, _, _ => none
 | k + 1, a, b, c, d, e => (if decide (c < (d.length : Int)) = true then (if 0 ≤ c then (if c < (d.length : Int) then (if c.toNat < d.length then (if ((d.getD c.toNat z114).f0 == 4) = true then (if 0 ≤ c then (if c < (d.length : Int) then (if c.toNat < d.length then (if ((d.getD c.toNat z114).f2 == a) = true then (if 0 ≤ c then (if c < (d.length : Int) then (if c.toNat < d.length then (if ((d.getD c.toNat z114).f3 == b) = true then (if e.length + [c].length ≤ big then (r11_Logs.c13 k (a) (b) (c) (d) (e ++ [c])) else none) else (r11_Logs.c13 k (a) (b) (c) (d) (e))) else none) else none) else none) else (r11_Logs.c13 k (a) (b) (c) (d) (e))) else none) else none) else none) else (r11_Logs.c13 k (a) (b) (c) (d) (e))) else none) else none) else none) else (r11_Logs.c5 k (a) (i64.wrap (b + 1)) (d) (e)))
def r11_Logs.c13 : Nat → Int → Int → Int → List S114 → List Int → Option (List Int)
 | 0, _, _, _, _, _ => none
 | k + 1, a, b, c, d, e => (r11_Logs.c10 k (a) (b) (i64.wrap (c + 1)) (d) (e))
end
def r11_Logs.f (k : Nat) (a0 : List Int) (a1 : Int) : Option (List Int) := ((r11_Chunks.f k a0).bind fun y0 => (r11_Logs.c5 k (a1) (0) (y0.snd) ([])))
def r11_Logs.o : FnOk (Tg g) Tryz.prog := mkO (tab_ok g) 35 Tryz.func35 [r11_Chunks.o g] [] [tc (qf 33), tc qI] [] (tc (qo 0)) [(0, qr 3)] r11_Logs.f [mkC (List Int) 5 54 [(1, tc qI), (5, tc (qo 0)), (7, tc (qo 1)), (8, tc qI)] [(0, qr 114), (1, qr 3)] 0 [0, 1, 2, 3] r11_Logs.c5, mkC (List Int) 10 54 [(1, tc qI), (5, tc (qo 0)), (7, tc (qo 1)), (8, tc qI), (9, tc qI)] [(0, qr 114), (1, qr 3)] 0 [0, 1, 2, 3, 4] r11_Logs.c10, mkC (List Int) 13 54 [(1, tc qI), (5, tc (qo 0)), (7, tc (qo 1)), (8, tc qI), (9, tc qI)] [(0, qr 114), (1, qr 3)] 0 [0, 1, 2, 3, 4] r11_Logs.c13]
def r05_Chunk.f (k : Nat) (a0_0 a0_1 a1 : Int) : Option (Int × Int) := ((r05_Chunks.f k a0_0 a0_1).bind fun y0 => (if decide (a1 < 0) = false then (if decide (a1 ≥ y0) = true then (some (0, 0)) else (some (i64.wrap (i64.wrap (i64.wrap (10 + i64.wrap (73 * a0_1)) + y0) + i64.wrap (32 * a1)), 32))) else (some (0, 0))))
def r05_Chunk.o : FnOk (Tg g) Tryz.prog := mkO (tab_ok g) 28 Tryz.func28 [r05_Chunks.o g] [] [ta [qI, qI], tc qI] [] (ta [qI, qI]) [] r05_Chunk.f []
def r15_Log.c9 : Nat → Int → Int → Int → List S57 → List Int → Option (List S57)
 | 0, _, _, _, _, _ => none
 | k + 1, a, b, c, d, e => (if decide (a < (e.length : Int)) = true then (if 0 ≤ a then (if a < (e.length : Int) then (if a.toNat < e.length then ((r05_Chunk.f k b c (e.getD a.toNat 0)).bind fun y5 => (if d.length + [S57.mk y5.fst y5.snd].length ≤ big then (r15_Log.c9 k (i64.wrap (a + 1)) (b) (c) (d ++ [S57.mk y5.fst y5.snd]) (e)) else none)) else none) else none) else none) else (some (d)))
def r15_Log.f (k : Nat) (a0 : List Int) (a1_0 a1_1 a2 : Int) : Option (List S57) := ((r15_Pool.f k a0 a1_0 a1_1 a2).bind fun y0 => (if (!y0) = true then (some ([])) else ((r05_Log.f k a1_0 a1_1 a2).bind fun y1 => ((r05_Table.f k a1_0 a1_1).bind fun y2 => ((r15_Part.f k a0 y2.fst y2.snd).bind fun y3 => ((r11_Logs.f k y3 a2).bind fun y4 => (r15_Log.c9 k (0) (a1_0) (a1_1) ([S57.mk y1.fst y1.snd]) (y4))))))))
def r15_Log.o : FnOk (Tg g) Tryz.prog := mkO (tab_ok g) 47 Tryz.func47 [r15_Pool.o g, r05_Log.o g, r11_Logs.o g, r15_Part.o g, r05_Table.o g, r05_Chunk.o g] [] [tc (qf 33), ta [qI, qI], tc qI] [] (tc (qo 0)) [(0, qr 57)] r15_Log.f [mkC (List S57) 9 43 [(4, tc (qb 0)), (8, tc (qo 1)), (9, tc (qo 2)), (10, tc qI)] [(0, .box 51 [qI, qI]), (1, qr 57), (2, qr 3)] 0 [0, 1, 2, 3, 4] r15_Log.c9]
def r12_can.f (k : Nat) (a0_0 a0_1 a0_2 : Int) : Option Bool := (if decide (a0_0 ≥ 0) = true then (if decide (a0_0 ≤ 2) = true then (if decide (a0_1 ≥ 0) = true then (some (decide (a0_1 ≤ 65535))) else (some (false))) else (some (false))) else (some (false)))
def r12_can.o : FnOk (Tg g) Tryz.prog := mkO (tab_ok g) 81 Tryz.func81 [] [] [ta [qI, qI, qU]] [] (tc qB) [] r12_can.f []
def r12_Encode.c7 : Nat → List S135 → Int → List Int → Option (Int × List Int)
 | 0, _, _, _ => none
 | k + 1, a, b, c => (if decide (b < (a.length : Int)) = true then (if 0 ≤ b then (if b < (a.length : Int) then ((r12_can.f k (a.getD b.toNat z135).f0 (a.getD b.toNat z135).f1 (a.getD b.toNat z135).f2).bind fun y0 => (if (!y0) = true then (some (1, [])) else (if 0 ≤ b then (if b < (a.length : Int) then (if 0 ≤ b then (if b < (a.length : Int) then (if 0 ≤ b then (if b < (a.length : Int) then (if c.length + [u64.wrap (u64.wrap (4 * u64.wrap (a.getD b.toNat z135).f1) + u64.wrap (a.getD b.toNat z135).f0), (a.getD b.toNat z135).f2].length ≤ big then (r12_Encode.c7 k (a) (i64.wrap (b + 1)) (c ++ [u64.wrap (u64.wrap (4 * u64.wrap (a.getD b.toNat z135).f1) + u64.wrap (a.getD b.toNat z135).f0), (a.getD b.toNat z135).f2])) else none) else none) else none) else none) else none) else none) else none))) else none) else none) else ((r02_Of.f k c).bind fun y1 => (if c.length + [u64.wrap y1].length ≤ big then (some (0, c ++ [u64.wrap y1])) else none)))
def r12_Encode.f (k : Nat) (a0 : List S135) : Option (Int × List Int) := (if decide ((a0.length : Int) > 19) = true then (some (3, [])) else (r12_Encode.c7 k (a0) (0) ([])))
def r12_Encode.o : FnOk (Tg g) Tryz.prog := mkO (tab_ok g) 48 Tryz.func48 [r12_can.o g, r02_Of.o g] [] [tc (qf 135)] [] (.tup [.cell (qo 0), .cell qI]) [(0, qr 33)] r12_Encode.f [mkC (Int × List Int) 7 51 [(0, tc (qf 135)), (4, tc (qo 0)), (5, tc qI)] [(0, qr 33)] 0 [0, 1, 2] r12_Encode.c7]
def r05_Redo.f (k : Nat) (a0_0 a0_1 a1 : Int) : Option (Int × Int) := ((r05_Right.f k a0_0 a0_1).bind fun y0 => (if (!y0) = false then (if decide (a1 < 0) = false then (if decide (a1 ≥ a0_1) = true then (some (0, 0)) else (some (i64.wrap (i64.wrap (i64.wrap (10 + a0_1) + i64.wrap (72 * a1)) + 32), 40))) else (some (0, 0))) else (some (0, 0))))
def r05_Redo.o : FnOk (Tg g) Tryz.prog := mkO (tab_ok g) 49 Tryz.func49 [r05_Right.o g] [] [ta [qI, qI], tc qI] [] (ta [qI, qI]) [] r05_Redo.f []
def r05_Mark.f (k : Nat) (a0_0 a0_1 a1 : Int) : Option Int := ((r05_Right.f k a0_0 a0_1).bind fun y0 => (if (!y0) = false then (if decide (a1 < 0) = false then (if decide (a1 ≥ a0_1) = true then (some (-1)) else (some (i64.wrap (10 + a1)))) else (some (-1))) else (some (-1))))
def r05_Mark.o : FnOk (Tg g) Tryz.prog := mkO (tab_ok g) 51 Tryz.func51 [r05_Right.o g] [] [ta [qI, qI], tc qI] [] (tc qI) [] r05_Mark.f []
def r07_Right.f (k : Nat) (a0_0 a0_1 a0_2 : Int) : Option Bool := (if decide (a0_0 < 0) = false then (if decide (a0_0 > 2) = false then (if decide (a0_1 < 0) = false then (if decide (a0_1 > 16383) = false then (if decide (a0_2 > 281474976710655) = true then (some (false)) else (if (a0_0 != 0) = false then (some (a0_1 == 0)) else (some (true)))) else (some (false))) else (some (false))) else (some (false))) else (some (false)))
def r07_Right.r (k : Nat) (a0_0 a0_1 a0_2 : Int) : Option Bool := (Decidable.rec (motive := fun _ => Option Bool) (fun _ => (some (false))) (fun _ => (Decidable.rec (motive := fun _ => Option Bool) (fun _ => (some (false))) (fun _ => (Decidable.rec (motive := fun _ => Option Bool) (fun _ => (some (false))) (fun _ => (Decidable.rec (motive := fun _ => Option Bool) (fun _ => (some (false))) (fun _ => (Decidable.rec (motive := fun _ => Option Bool) (fun _ => (Decidable.rec (motive := fun _ => Option Bool) (fun _ => (some (true))) (fun _ => (some (a0_1 == 0))) (inferInstance : Decidable ((a0_0 != 0) = false)))) (fun _ => (some (false))) (inferInstance : Decidable (decide (a0_2 > 281474976710655) = true)))) (inferInstance : Decidable (decide (a0_1 > 16383) = false)))) (inferInstance : Decidable (decide (a0_1 < 0) = false)))) (inferInstance : Decidable (decide (a0_0 > 2) = false)))) (inferInstance : Decidable (decide (a0_0 < 0) = false)))
def r07_Right.o : FnOk (Tg g) Tryz.prog := mkO (tab_ok g) 67 Tryz.func67 [] [] [ta [qI, qI, qU]] [] (tc qB) [] r07_Right.f [] (hf := fun k ats => (by kernel_rfl : r07_Right.f k (aI ats 0) (aI ats 1) (aI ats 2) = r07_Right.r k (aI ats 0) (aI ats 1) (aI ats 2)).trans (by kernel_rfl))
def r07_Encode.f (k : Nat) (a0_0 a0_1 a0_2 : Int) : Option (Int × Int) := ((r07_Right.f k a0_0 a0_1 a0_2).bind fun y0 => (if (!y0) = true then (some (0, 1)) else (some (u64.wrap (u64.wrap (u64.wrap (65536 * a0_2) + u64.wrap (4 * u64.wrap a0_1)) + u64.wrap a0_0), 0))))
def r07_Encode.o : FnOk (Tg g) Tryz.prog := mkO (tab_ok g) 50 Tryz.func50 [r07_Right.o g] [] [ta [qI, qI, qU]] [] (.tup [.cell qU, .cell qI]) [] r07_Encode.f []
mutual
def r15_Make.c11 : Nat → Int → List Int → List S94 → List S35 → Int → Int → List Int → Option (List Int)
 | 0, _, _, _, _, _, _, _ => none
 | k + 1, a, b, c, d, e, g, h => (if decide (a < (h.length : Int)) = true then (if decide ((b.length : Int) > 0) = true then (if (b.length : Int) = 0 then none else (if 0 ≤ a.tmod (b.length : Int) then (if a.tmod (b.length : Int) < (b.length : Int) then (if 0 ≤ a then (if a < (h.length : Int) then (if a.toNat < h.length then (r15_Make.c11 k (i64.wrap (a + 1)) (b) (c) (d) (e) (g) (h.set a.toNat (b.getD (a.tmod (b.length : Int)).toNat 0))) else none) else none) else none) else none) else none)) else (r15_Make.c17 k (0) (c) (d) (e) (g) (h))) else (r15_Make.c17 k (0) (c) (d) (e) (g) (h)))
def r15_Make.c17 : Nat → Int → List S94 → List S35 → Int → Int → List Int → Option (List Int)
 | 0, _, _, _, _, _, _ => none
 | k + 1, a, b, c, d, e, g => (if decide (a < (b.length : Int)) = true then (if 0 ≤ a then (if a < (b.length : Int) then (if e = 0 then none else (if (i64.wrap ((b.getD a.toNat z94).f1.tmod 3) == 1) = true then (r15_Make.c29 k (a) ((i64.wrap (b.getD a.toNat z94).f0).tmod e) (0) (b) (c) (d) (e) (g) ((b.getD a.toNat z94).f3) ((b.getD a.toNat z94).f4) (i64.wrap ((b.getD a.toNat z94).f1.tmod 3)) ((b.getD a.toNat z94).f2.tmod 281474976710656) ([])) else (r15_Make.c24 k (a) ((i64.wrap (b.getD a.toNat z94).f0).tmod e) (b) (c) (d) (e) (g) ((b.getD a.toNat z94).f4) (i64.wrap ((b.getD a.toNat z94).f1.tmod 3)) (0) ((b.getD a.toNat z94).f2.tmod 281474976710656)))) else none) else none) else (r15_Make.c41 k (0) (c) (g)))
def r15_Make.c29 : Nat → Int → Int → Int → List S94 → List S35 → Int → Int → List Int → List S96 → List S135 → Int → Int → List Int → Option (List Int)
 | 0, _, _, _, _, _, _, _, _, _, _, _, _, _ => none
 | k + 1, a, b, c, d, e, g, h, i, j, l, m, n, o => (if decide (c < (j.length : Int)) = true then (if 0 ≤ c then (if c < (j.length : Int) then ((r13_Encode.f k n (j.getD c.toNat z96).f0 (j.getD c.toNat z96).f1).bind fun y6 => (if o.length + y6.snd.length ≤ big then (r15_Make.c29 k (a) (b) (i64.wrap (c + 1)) (d) (e) (g) (h) (i) (j) (l) (m) (n) (o ++ y6.snd)) else none)) else none) else none) else ((r15_Log.f k i g h b).bind fun y7 => ((r14_Scatter.f k i y7 o).bind fun y8 => (r15_Make.c24 k (a) (b) (d) (e) (g) (h) (y8) (l) (m) ((o.length : Int)) (n)))))
def r15_Make.c24 : Nat → Int → Int → List S94 → List S35 → Int → Int → List Int → List S135 → Int → Int → Int → Option (List Int)
 | 0, _, _, _, _, _, _, _, _, _, _, _ => none
 | k + 1, a, b, c, d, e, g, h, i, j, l, m => (if (j == 2) = true then ((r12_Encode.f k i).bind fun y9 => ((r05_Redo.f k e g b).bind fun y10 => ((r15_put.f k y10.fst y9.snd h).bind fun y11 => (r15_Make.c35 k (a) (b) (c) (d) (e) (g) (y11) (j) (mn (i.length : Int) 19) (m))))) else (r15_Make.c35 k (a) (b) (c) (d) (e) (g) (h) (j) (l) (m)))
def r15_Make.c41 : Nat → Int → List S35 → List Int → Option (List Int)
 | 0, _, _, _ => none
 | k + 1, a, b, c => (if decide (a < (b.length : Int)) = true then (if 0 ≤ a then (if a < (b.length : Int) then (if (c.length : Int) = 0 then none else (if 0 ≤ a then (if a < (b.length : Int) then (if 0 ≤ (i64.wrap (b.getD a.toNat z35).f0).tmod (c.length : Int) then (if (i64.wrap (b.getD a.toNat z35).f0).tmod (c.length : Int) < (c.length : Int) then (if ((i64.wrap (b.getD a.toNat z35).f0).tmod (c.length : Int)).toNat < c.length then (r15_Make.c41 k (i64.wrap (a + 1)) (b) (c.set ((i64.wrap (b.getD a.toNat z35).f0).tmod (c.length : Int)).toNat (b.getD a.toNat z35).f1)) else none) else none) else none) else none) else none)) else none) else none) else (if decide ((b.length : Int) > 0) = true then (if 0 < (b.length : Int) then (if ((b.getD (Int.toNat 0) z35).f0.tmod 2 == 0) = true then (if 7 ≤ (c.length : Int) then ((r02_Of.f k (List.drop (Int.toNat 0) (List.take (Int.toNat 7) c))).bind fun y12 => (if 7 < (c.length : Int) then (if Int.toNat 7 < c.length then (r15_Make.c45 k (c.set (Int.toNat 7) (u64.wrap y12))) else none) else none)) else none) else (r15_Make.c45 k (c))) else none) else (r15_Make.c45 k (c))))
def r15_Make.c35 : Nat → Int → Int → List S94 → List S35 → Int → Int → List Int → Int → Int → Int → Option (List Int)
 | 0, _, _, _, _, _, _, _, _, _, _ => none
 | k + 1, a, b, c, d, e, g, h, i, j, l => ((r05_Mark.f k e g b).bind fun y13 => ((r07_Encode.f k i j l).bind fun y14 => (if 0 ≤ y13 then (if y13 < (h.length : Int) then (if y13.toNat < h.length then (r15_Make.c17 k (i64.wrap (a + 1)) (c) (d) (e) (g) (h.set y13.toNat y14.fst)) else none) else none) else none)))
def r15_Make.c45 : Nat → List Int → Option (List Int)
 | 0, _ => none
 | k + 1, a => (some (a))
end
def r15_Make.f (k : Nat) (a0_0 a0_1 : Int) (a0_2 a0_3 : List Int) (a0_4 : List S94) (a0_5 a0_6 : Int) (a0_7 : List S35) : Option (List Int) := ((r15_Geometry.f k a0_0 a0_1 a0_2 a0_3 a0_4 a0_5 a0_6 a0_7).bind fun y0 => (if 0 ≤ y0.fst then (if y0.fst ≤ y0.fst then (if y0.fst ≤ 1099511627776 then ((r06_Encode.f k y0.fst y0.snd).bind fun y1 => ((r15_put.f k 0 y1.snd (List.replicate y0.fst.toNat 0)).bind fun y2 => (if 8 < (y2.length : Int) then (if Int.toNat 8 < y2.length then (if 9 < ((y2.set (Int.toNat 8) a0_5).length : Int) then (if Int.toNat 9 < (y2.set (Int.toNat 8) a0_5).length then ((r05_Table.f k y0.fst y0.snd).bind fun y3 => ((r11_Made.f k a0_2 y3.snd).bind fun y4 => ((r15_put.f k y3.fst y4 ((y2.set (Int.toNat 8) a0_5).set (Int.toNat 9) a0_6)).bind fun y5 => (r15_Make.c11 k (i64.wrap (y3.fst + y3.snd)) (a0_3) (a0_4) (a0_7) (y0.fst) (y0.snd) (y5))))) else none) else none) else none) else none))) else none) else none) else none))
def r15_Make.o : FnOk (Tg g) Tryz.prog := mkO (tab_ok g) 21 Tryz.func21 [r15_Geometry.o g, r06_Encode.o g, r15_put.o g, r05_Table.o g, r11_Made.o g, r13_Encode.o g, r14_Scatter.o g, r15_Log.o g, r12_Encode.o g, r05_Redo.o g, r05_Mark.o g, r07_Encode.o g, r02_Of.o g] [] [ta [qY, qY, (qf 32), (qf 33), (qf 94), qU, qU, (qf 35)]] [] (tc (qo 0)) [(0, qr 33)] r15_Make.f [mkC (List Int) 11 217 [(1, tc (qb 0)), (3, tc (qb 1)), (4, tc (qo 2)), (8, tc qI)] [(0, .box 47 [qY, qY, qf 32, qf 33, qf 94, qU, qU, qf 35]), (1, .box 51 [qI, qI]), (2, qr 33)] 0 [0, 4, 5, 8, 9, 10, 11] r15_Make.c11, mkC (List Int) 17 217 [(1, tc (qb 0)), (3, tc (qb 1)), (4, tc (qo 2)), (9, tc qI)] [(0, .box 47 [qY, qY, qf 32, qf 33, qf 94, qU, qU, qf 35]), (1, .box 51 [qI, qI]), (2, qr 33)] 0 [0, 5, 8, 9, 10, 11] r15_Make.c17, mkC (List Int) 29 217 [(1, tc (qb 0)), (3, tc (qb 1)), (4, tc (qo 2)), (9, tc qI), (10, tc (qb 3)), (11, tc qI), (12, tc (qb 4)), (13, tc (qo 5)), (14, tc qI)] [(0, .box 47 [qY, qY, qf 32, qf 33, qf 94, qU, qU, qf 35]), (1, .box 51 [qI, qI]), (2, qr 33), (3, .box 94 [qY, qY, qU, qf 96, qf 135]), (4, .box 79 [qI, qI, qU]), (5, qr 33)] 0 [0, 1, 2, 7, 10, 11, 12, 13, 17, 18, 19, 21, 22] r15_Make.c29, mkC (List Int) 24 217 [(1, tc (qb 0)), (3, tc (qb 1)), (4, tc (qo 2)), (9, tc qI), (10, tc (qb 3)), (11, tc qI), (12, tc (qb 4))] [(0, .box 47 [qY, qY, qf 32, qf 33, qf 94, qU, qU, qf 35]), (1, .box 51 [qI, qI]), (2, qr 33), (3, .box 94 [qY, qY, qU, qf 96, qf 135]), (4, .box 79 [qI, qI, qU])] 0 [0, 1, 6, 9, 10, 11, 12, 17, 18, 19, 20] r15_Make.c24, mkC (List Int) 41 217 [(1, tc (qb 0)), (4, tc (qo 1)), (19, tc qI)] [(0, .box 47 [qY, qY, qf 32, qf 33, qf 94, qU, qU, qf 35]), (1, qr 33)] 0 [0, 8, 9] r15_Make.c41, mkC (List Int) 35 217 [(1, tc (qb 0)), (3, tc (qb 1)), (4, tc (qo 2)), (9, tc qI), (11, tc qI), (12, tc (qb 3))] [(0, .box 47 [qY, qY, qf 32, qf 33, qf 94, qU, qU, qf 35]), (1, .box 51 [qI, qI]), (2, qr 33), (3, .box 79 [qI, qI, qU])] 0 [0, 1, 6, 9, 10, 11, 12, 13, 14, 15] r15_Make.c35, mkC (List Int) 45 217 [(4, tc (qo 0))] [(0, qr 33)] 0 [0] r15_Make.c45]
end Go.Proofs.YtbbpcbjgekencaaGreatDoor.FT
end

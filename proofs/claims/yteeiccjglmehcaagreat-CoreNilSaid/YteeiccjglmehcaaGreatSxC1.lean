/-
  Package core: the small functions. Printed by mk.py out of spec_core1.py.
-/
import Derived.Test.YteeiccjglmehcaaGreatSxF
import Derived.Test.YteeiccjglmehcaaGreatSx15
import Derived.Test.YteeiccjglmehcaaGreatShelf
namespace Go.Proofs.YteeiccjglmehcaaGreat
open Go Go.Sx

/-- The chunks that are needed, one after the other, and what is left. -/
inductive Tk : List Chunk → List Chunk → List Chunk → Prop
  | n {r : List Chunk} : Tk r [] r
  | c0 {c : Chunk} {r need r' : List Chunk} : Tk (r) need r' → Tk (c :: r) (c :: need) r'
  | c1 {x0 c : Chunk} {r need r' : List Chunk} : Tk (x0 :: r) need r' → Tk (x0 :: c :: r) (c :: need) r'
  | c2 {x0 x1 c : Chunk} {r need r' : List Chunk} : Tk (x0 :: x1 :: r) need r' → Tk (x0 :: x1 :: c :: r) (c :: need) r'
  | c3 {x0 x1 x2 c : Chunk} {r need r' : List Chunk} : Tk (x0 :: x1 :: x2 :: r) need r' → Tk (x0 :: x1 :: x2 :: c :: r) (c :: need) r'
  | c4 {x0 x1 x2 x3 c : Chunk} {r need r' : List Chunk} : Tk (x0 :: x1 :: x2 :: x3 :: r) need r' → Tk (x0 :: x1 :: x2 :: x3 :: c :: r) (c :: need) r'
  | c5 {x0 x1 x2 x3 x4 c : Chunk} {r need r' : List Chunk} : Tk (x0 :: x1 :: x2 :: x3 :: x4 :: r) need r' → Tk (x0 :: x1 :: x2 :: x3 :: x4 :: c :: r) (c :: need) r'
  | c6 {x0 x1 x2 x3 x4 x5 c : Chunk} {r need r' : List Chunk} : Tk (x0 :: x1 :: x2 :: x3 :: x4 :: x5 :: r) need r' → Tk (x0 :: x1 :: x2 :: x3 :: x4 :: x5 :: c :: r) (c :: need) r'
  | c7 {x0 x1 x2 x3 x4 x5 x6 c : Chunk} {r need r' : List Chunk} : Tk (x0 :: x1 :: x2 :: x3 :: x4 :: x5 :: x6 :: r) need r' → Tk (x0 :: x1 :: x2 :: x3 :: x4 :: x5 :: x6 :: c :: r) (c :: need) r'
  | c8 {x0 x1 x2 x3 x4 x5 x6 x7 c : Chunk} {r need r' : List Chunk} : Tk (x0 :: x1 :: x2 :: x3 :: x4 :: x5 :: x6 :: x7 :: r) need r' → Tk (x0 :: x1 :: x2 :: x3 :: x4 :: x5 :: x6 :: x7 :: c :: r) (c :: need) r'
  | c9 {x0 x1 x2 x3 x4 x5 x6 x7 x8 c : Chunk} {r need r' : List Chunk} : Tk (x0 :: x1 :: x2 :: x3 :: x4 :: x5 :: x6 :: x7 :: x8 :: r) need r' → Tk (x0 :: x1 :: x2 :: x3 :: x4 :: x5 :: x6 :: x7 :: x8 :: c :: r) (c :: need) r'
  | c10 {x0 x1 x2 x3 x4 x5 x6 x7 x8 x9 c : Chunk} {r need r' : List Chunk} : Tk (x0 :: x1 :: x2 :: x3 :: x4 :: x5 :: x6 :: x7 :: x8 :: x9 :: r) need r' → Tk (x0 :: x1 :: x2 :: x3 :: x4 :: x5 :: x6 :: x7 :: x8 :: x9 :: c :: r) (c :: need) r'
  | c11 {x0 x1 x2 x3 x4 x5 x6 x7 x8 x9 x10 c : Chunk} {r need r' : List Chunk} : Tk (x0 :: x1 :: x2 :: x3 :: x4 :: x5 :: x6 :: x7 :: x8 :: x9 :: x10 :: r) need r' → Tk (x0 :: x1 :: x2 :: x3 :: x4 :: x5 :: x6 :: x7 :: x8 :: x9 :: x10 :: c :: r) (c :: need) r'
  | c12 {x0 x1 x2 x3 x4 x5 x6 x7 x8 x9 x10 x11 c : Chunk} {r need r' : List Chunk} : Tk (x0 :: x1 :: x2 :: x3 :: x4 :: x5 :: x6 :: x7 :: x8 :: x9 :: x10 :: x11 :: r) need r' → Tk (x0 :: x1 :: x2 :: x3 :: x4 :: x5 :: x6 :: x7 :: x8 :: x9 :: x10 :: x11 :: c :: r) (c :: need) r'
  | c13 {x0 x1 x2 x3 x4 x5 x6 x7 x8 x9 x10 x11 x12 c : Chunk} {r need r' : List Chunk} : Tk (x0 :: x1 :: x2 :: x3 :: x4 :: x5 :: x6 :: x7 :: x8 :: x9 :: x10 :: x11 :: x12 :: r) need r' → Tk (x0 :: x1 :: x2 :: x3 :: x4 :: x5 :: x6 :: x7 :: x8 :: x9 :: x10 :: x11 :: x12 :: c :: r) (c :: need) r'
  | c14 {x0 x1 x2 x3 x4 x5 x6 x7 x8 x9 x10 x11 x12 x13 c : Chunk} {r need r' : List Chunk} : Tk (x0 :: x1 :: x2 :: x3 :: x4 :: x5 :: x6 :: x7 :: x8 :: x9 :: x10 :: x11 :: x12 :: x13 :: r) need r' → Tk (x0 :: x1 :: x2 :: x3 :: x4 :: x5 :: x6 :: x7 :: x8 :: x9 :: x10 :: x11 :: x12 :: x13 :: c :: r) (c :: need) r'
  | c15 {x0 x1 x2 x3 x4 x5 x6 x7 x8 x9 x10 x11 x12 x13 x14 c : Chunk} {r need r' : List Chunk} : Tk (x0 :: x1 :: x2 :: x3 :: x4 :: x5 :: x6 :: x7 :: x8 :: x9 :: x10 :: x11 :: x12 :: x13 :: x14 :: r) need r' → Tk (x0 :: x1 :: x2 :: x3 :: x4 :: x5 :: x6 :: x7 :: x8 :: x9 :: x10 :: x11 :: x12 :: x13 :: x14 :: c :: r) (c :: need) r'
  | c16 {x0 x1 x2 x3 x4 x5 x6 x7 x8 x9 x10 x11 x12 x13 x14 x15 c : Chunk} {r need r' : List Chunk} : Tk (x0 :: x1 :: x2 :: x3 :: x4 :: x5 :: x6 :: x7 :: x8 :: x9 :: x10 :: x11 :: x12 :: x13 :: x14 :: x15 :: r) need r' → Tk (x0 :: x1 :: x2 :: x3 :: x4 :: x5 :: x6 :: x7 :: x8 :: x9 :: x10 :: x11 :: x12 :: x13 :: x14 :: x15 :: c :: r) (c :: need) r'
  | c17 {x0 x1 x2 x3 x4 x5 x6 x7 x8 x9 x10 x11 x12 x13 x14 x15 x16 c : Chunk} {r need r' : List Chunk} : Tk (x0 :: x1 :: x2 :: x3 :: x4 :: x5 :: x6 :: x7 :: x8 :: x9 :: x10 :: x11 :: x12 :: x13 :: x14 :: x15 :: x16 :: r) need r' → Tk (x0 :: x1 :: x2 :: x3 :: x4 :: x5 :: x6 :: x7 :: x8 :: x9 :: x10 :: x11 :: x12 :: x13 :: x14 :: x15 :: x16 :: c :: r) (c :: need) r'
  | c18 {x0 x1 x2 x3 x4 x5 x6 x7 x8 x9 x10 x11 x12 x13 x14 x15 x16 x17 c : Chunk} {r need r' : List Chunk} : Tk (x0 :: x1 :: x2 :: x3 :: x4 :: x5 :: x6 :: x7 :: x8 :: x9 :: x10 :: x11 :: x12 :: x13 :: x14 :: x15 :: x16 :: x17 :: r) need r' → Tk (x0 :: x1 :: x2 :: x3 :: x4 :: x5 :: x6 :: x7 :: x8 :: x9 :: x10 :: x11 :: x12 :: x13 :: x14 :: x15 :: x16 :: x17 :: c :: r) (c :: need) r'
  | c19 {x0 x1 x2 x3 x4 x5 x6 x7 x8 x9 x10 x11 x12 x13 x14 x15 x16 x17 x18 c : Chunk} {r need r' : List Chunk} : Tk (x0 :: x1 :: x2 :: x3 :: x4 :: x5 :: x6 :: x7 :: x8 :: x9 :: x10 :: x11 :: x12 :: x13 :: x14 :: x15 :: x16 :: x17 :: x18 :: r) need r' → Tk (x0 :: x1 :: x2 :: x3 :: x4 :: x5 :: x6 :: x7 :: x8 :: x9 :: x10 :: x11 :: x12 :: x13 :: x14 :: x15 :: x16 :: x17 :: x18 :: c :: r) (c :: need) r'
  | c20 {x0 x1 x2 x3 x4 x5 x6 x7 x8 x9 x10 x11 x12 x13 x14 x15 x16 x17 x18 x19 c : Chunk} {r need r' : List Chunk} : Tk (x0 :: x1 :: x2 :: x3 :: x4 :: x5 :: x6 :: x7 :: x8 :: x9 :: x10 :: x11 :: x12 :: x13 :: x14 :: x15 :: x16 :: x17 :: x18 :: x19 :: r) need r' → Tk (x0 :: x1 :: x2 :: x3 :: x4 :: x5 :: x6 :: x7 :: x8 :: x9 :: x10 :: x11 :: x12 :: x13 :: x14 :: x15 :: x16 :: x17 :: x18 :: x19 :: c :: r) (c :: need) r'
  | c21 {x0 x1 x2 x3 x4 x5 x6 x7 x8 x9 x10 x11 x12 x13 x14 x15 x16 x17 x18 x19 x20 c : Chunk} {r need r' : List Chunk} : Tk (x0 :: x1 :: x2 :: x3 :: x4 :: x5 :: x6 :: x7 :: x8 :: x9 :: x10 :: x11 :: x12 :: x13 :: x14 :: x15 :: x16 :: x17 :: x18 :: x19 :: x20 :: r) need r' → Tk (x0 :: x1 :: x2 :: x3 :: x4 :: x5 :: x6 :: x7 :: x8 :: x9 :: x10 :: x11 :: x12 :: x13 :: x14 :: x15 :: x16 :: x17 :: x18 :: x19 :: x20 :: c :: r) (c :: need) r'
  | c22 {x0 x1 x2 x3 x4 x5 x6 x7 x8 x9 x10 x11 x12 x13 x14 x15 x16 x17 x18 x19 x20 x21 c : Chunk} {r need r' : List Chunk} : Tk (x0 :: x1 :: x2 :: x3 :: x4 :: x5 :: x6 :: x7 :: x8 :: x9 :: x10 :: x11 :: x12 :: x13 :: x14 :: x15 :: x16 :: x17 :: x18 :: x19 :: x20 :: x21 :: r) need r' → Tk (x0 :: x1 :: x2 :: x3 :: x4 :: x5 :: x6 :: x7 :: x8 :: x9 :: x10 :: x11 :: x12 :: x13 :: x14 :: x15 :: x16 :: x17 :: x18 :: x19 :: x20 :: x21 :: c :: r) (c :: need) r'
  | c23 {x0 x1 x2 x3 x4 x5 x6 x7 x8 x9 x10 x11 x12 x13 x14 x15 x16 x17 x18 x19 x20 x21 x22 c : Chunk} {r need r' : List Chunk} : Tk (x0 :: x1 :: x2 :: x3 :: x4 :: x5 :: x6 :: x7 :: x8 :: x9 :: x10 :: x11 :: x12 :: x13 :: x14 :: x15 :: x16 :: x17 :: x18 :: x19 :: x20 :: x21 :: x22 :: r) need r' → Tk (x0 :: x1 :: x2 :: x3 :: x4 :: x5 :: x6 :: x7 :: x8 :: x9 :: x10 :: x11 :: x12 :: x13 :: x14 :: x15 :: x16 :: x17 :: x18 :: x19 :: x20 :: x21 :: x22 :: c :: r) (c :: need) r'
theorem Tk.take {cs need r : List Chunk} (h : Tk cs need r) : Take cs need r := by
  induction h with
  | n => exact tn
  | c0 _ ih => exact Take1.c t0 ih
  | c1 _ ih => exact Take1.c t1 ih
  | c2 _ ih => exact Take1.c t2 ih
  | c3 _ ih => exact Take1.c t3 ih
  | c4 _ ih => exact Take1.c t4 ih
  | c5 _ ih => exact Take1.c t5 ih
  | c6 _ ih => exact Take1.c t6 ih
  | c7 _ ih => exact Take1.c t7 ih
  | c8 _ ih => exact Take1.c (tS (t7)) ih
  | c9 _ ih => exact Take1.c (tS (tS (t7))) ih
  | c10 _ ih => exact Take1.c (tS (tS (tS (t7)))) ih
  | c11 _ ih => exact Take1.c (tS (tS (tS (tS (t7))))) ih
  | c12 _ ih => exact Take1.c (tS (tS (tS (tS (tS (t7)))))) ih
  | c13 _ ih => exact Take1.c (tS (tS (tS (tS (tS (tS (t7))))))) ih
  | c14 _ ih => exact Take1.c (tS (tS (tS (tS (tS (tS (tS (t7)))))))) ih
  | c15 _ ih => exact Take1.c (tS (tS (tS (tS (tS (tS (tS (tS (t7))))))))) ih
  | c16 _ ih => exact Take1.c (tS (tS (tS (tS (tS (tS (tS (tS (tS (t7)))))))))) ih
  | c17 _ ih => exact Take1.c (tS (tS (tS (tS (tS (tS (tS (tS (tS (tS (t7))))))))))) ih
  | c18 _ ih => exact Take1.c (tS (tS (tS (tS (tS (tS (tS (tS (tS (tS (tS (t7)))))))))))) ih
  | c19 _ ih => exact Take1.c (tS (tS (tS (tS (tS (tS (tS (tS (tS (tS (tS (tS (t7))))))))))))) ih
  | c20 _ ih => exact Take1.c (tS (tS (tS (tS (tS (tS (tS (tS (tS (tS (tS (tS (tS (t7)))))))))))))) ih
  | c21 _ ih => exact Take1.c (tS (tS (tS (tS (tS (tS (tS (tS (tS (tS (tS (tS (tS (tS (t7))))))))))))))) ih
  | c22 _ ih => exact Take1.c (tS (tS (tS (tS (tS (tS (tS (tS (tS (tS (tS (tS (tS (tS (tS (t7)))))))))))))))) ih
  | c23 _ ih => exact Take1.c (tS (tS (tS (tS (tS (tS (tS (tS (tS (tS (tS (tS (tS (tS (tS (tS (t7))))))))))))))))) ih
/-- The chunks in another order, some left out. -/
theorem prm {cs need r : List Chunk} (h : Tk cs need r) : ∀ w, Sat cs w → Sat need w := fun _ hs => Take.sat h.take hs
abbrev I (n : Int) : Value := .int .i64 n
abbrev B (b : Bool) : Value := .bool b
abbrev pt (b : Nat) : Value := .pointer (some ⟨b, 0, none⟩)
abbrev nilP : Value := .pointer none
abbrev nilS : Value := .slice none 0 0
/-- A caller that may all: number 0 of group 0. -/
@[reducible] def cl (now : Int) : List Value := [I 0, I 0, nilS, I now]
abbrev clV (now : Int) : Value := .agg (cl now).toArray
@[reducible] def tm (s n : Int) : List Value := [I s, I n]
/-- What is set. -/
@[reducible] def se (hm hs : Bool) (m s : Int) : List Value := [B hm, B false, B false, B hs, I m, I 0, I 0, I s, I 0, I 0, I 0, I 0, I 0, I 0]
abbrev seV (hm hs : Bool) (m s : Int) : Value := .agg (se hm hs m s).toArray
structure Nd where
  kind : Int
  mode : Int
  links : Int
  size : Int
  used : Int
  id : Int
  a0 : Int
  a1 : Int
  m0 : Int
  m1 : Int
  c0 : Int
  c1 : Int
  data : List UInt8
  verf : List UInt8
  parent : Int
/-- The cells of a file. -/
@[reducible] def nd (n : Nd) (p : Value) : List Value := [I n.kind, I n.mode, I n.links, I 0, I 0, I n.size, I n.used, I 0, I 0, I 1, I n.id, I n.a0, I n.a1, I n.m0, I n.m1, I n.c0, I n.c1, S n.data, S n.verf, I n.parent, p]
@[reducible] def ndc (b : Nat) (n : Nd) (p : Value) : Chunk := blk b (nd n p) T_core_Node

theorem core_Caller_time_fn (now : Int) : Does P F_core_Caller_time [clV now] [] fun u cs => u = .agg (tm now 0).toArray ∧ cs = [] := by
  refine Does.mk (N := 6) fn_core_Caller_time rfl rfl rfl (fun F => ?_)
  simp only [List.cons_append, List.nil_append]
  refine XC.seq ?_
  refine XC.reg ?_
  refine XL.bx rfl rfl rfl (fun b1 => ?_)
  refine XL.al z_attr_Time rfl (fun b2 => ?_)
  refine XL.nil ?_
  refine XQ.thenN ?_
  refine XC.seq ?_
  refine XC.reg ?_
  refine XL.fa fo_core_Caller_1 rfl rfl ?_
  refine XL.ld o_int rfl (by rfl) rfl ?_
  refine XL.bd z_attr_Time p_attr_Time rfl rfl ?_
  refine XL.stM g_attr_Time rfl rfl rfl (by rfl) rfl ?_
  refine XL.nil ?_
  refine XQ.thenN ?_
  refine XC.ret ?_
  exact XQ.ret (.inl rfl) rfl (rC (resN g_attr_Time rfl rfl rfl) <| rN) [] (⟨rfl, rfl⟩) (fun w h => Sat.tail (Sat.tail h))

theorem core_Caller_owns_fn (now : Int) (v : Value) : Does P F_core_Caller_owns [clV now, v] [] fun u cs => u = B true ∧ cs = [] := by
  refine Does.mk (N := 20) fn_core_Caller_owns rfl rfl rfl (fun F => ?_)
  simp only [List.cons_append, List.nil_append]
  refine XC.seq ?_
  refine XC.reg ?_
  refine XL.bx rfl rfl rfl (fun b2 => ?_)
  refine XL.as rfl rfl ?_
  refine XL.nil ?_
  refine XQ.thenN ?_
  refine XC.seq ?_
  refine XC.drw (.q 0 <| .q 1 <| .q 2 <| .q 3 <| .q 4 <| .q 5 <| .q 6 <| .q 7 <| .q 8 <| .q 9 <| .q 10 <| .q 11 <| .q 12 <| .q 13 <| .q 14 <| .e 15 <| .done) mixed (by kernel_rfl) rfl ?_
  refine JP.qq rfl rfl rfl (XL.fa fo_core_Caller_0 rfl rfl XL.qd) ?_
  refine JP.qq rfl rfl rfl (XL.fa fo_api_Who_0 rfl rfl XL.qd) ?_
  refine JP.qq rfl rfl rfl (XL.ld o_int rfl (by rfl) rfl XL.qd) ?_
  refine JP.qq rfl rfl rfl (XL.bin rfl rfl rfl (bEqI) XL.qd) ?_
  refine JP.qq rfl rfl rfl (XL.mv rfl rfl XL.qd) ?_
  refine JP.re 9 (u := .bool true) rfl (rfl) ?_
  refine JP.qq rfl rfl rfl (XL.no rfl rfl XL.qd) ?_
  refine JP.qq rfl rfl rfl (XL.no rfl rfl XL.qd) ?_
  refine JP.qq rfl rfl rfl (XL.no rfl rfl XL.qd) ?_
  refine JP.qq rfl rfl rfl (XL.no rfl rfl XL.qd) ?_
  refine JP.qq rfl rfl rfl (XL.no rfl rfl XL.qd) ?_
  refine JP.qq rfl rfl rfl (XL.no rfl rfl XL.qd) ?_
  refine JP.qq rfl rfl rfl (XL.no rfl rfl XL.qd) ?_
  refine JP.qq rfl rfl rfl (XL.no rfl rfl XL.qd) ?_
  refine JP.qq rfl rfl rfl (XL.no rfl rfl XL.qd) ?_
  refine JP.qq rfl rfl rfl (XL.pkT rfl rfl rfl XL.qd) ?_
  refine JP.ee rfl ?_
  refine XL.as rfl rfl ?_
  refine XL.ed ?_
  refine JP.done ?_
  refine XQ.thenN ?_
  refine XC.ret ?_
  exact XQ.ret (.inl rfl) rfl (rC (resT rfl) <| rN) [] (⟨rfl, rfl⟩) (fun w h => Sat.tail h)

theorem attr_May_fn (l : List Value) (hl : l.length = 17) (g v : Value) (n : Int) : Does P F_attr_May [.agg l.toArray, I 0, g, v, I n] [] fun u cs => u = B true ∧ cs = [] := by
  refine Does.mk (N := 41) fn_attr_May rfl rfl rfl (fun F => ?_)
  simp only [List.cons_append, List.nil_append]
  refine XC.seq ?_
  refine XC.reg ?_
  refine XL.bx rfl rfl rfl (fun b5 => ?_)
  refine XL.as rfl rfl ?_
  refine XL.nil ?_
  refine XQ.thenN ?_
  refine XC.seq ?_
  refine XC.reg ?_
  refine XL.as rfl rfl ?_
  refine XL.nil ?_
  refine XQ.thenN ?_
  refine XC.seq ?_
  refine XC.block ?_
  refine XC.seq ?_
  refine XC.reg ?_
  refine XL.mv rfl rfl ?_
  refine XL.bin rfl rfl rfl (bEqI) ?_
  refine XL.as rfl rfl ?_
  refine XL.nil ?_
  refine XQ.thenN ?_
  refine XC.condT rfl ?_
  refine XC.seq ?_
  refine XC.reg ?_
  refine XL.as rfl rfl ?_
  refine XL.nil ?_
  refine XQ.thenN ?_
  refine XC.ret ?_
  refine XQ.blkR ?_
  refine XQ.thenR ?_
  exact XQ.ret (.inl rfl) rfl (rC (resT rfl) <| rN) [] (⟨rfl, rfl⟩) (fun w h => Sat.tail h)

theorem core_Caller_may_fn (b : Nat) (n : Nd) (p : Value) (now bits : Int) : Does P F_core_Caller_may [clV now, pt b, I bits] [ndc b n p] fun u cs => u = B true ∧ cs = [ndc b n p] := by
  refine Does.mk (N := 22) fn_core_Caller_may rfl rfl rfl (fun F => ?_)
  simp only [List.cons_append, List.nil_append]
  refine XC.seq ?_
  refine XC.reg ?_
  refine XL.bx rfl rfl rfl (fun b3 => ?_)
  refine XL.as rfl rfl ?_
  refine XL.nil ?_
  refine XQ.thenN ?_
  refine XC.seq ?_
  refine XC.drw (.q 0 <| .q 1 <| .q 2 <| .q 3 <| .q 4 <| .q 5 <| .q 6 <| .q 7 <| .q 8 <| .q 9 <| .q 10 <| .q 11 <| .q 12 <| .q 13 <| .q 14 <| .e 15 <| .done) mixed (by kernel_rfl) rfl ?_
  refine JP.qq rfl rfl rfl (XL.mv rfl rfl XL.qd) ?_
  refine JP.qq rfl rfl rfl (XL.ncP rfl rfl XL.qd) ?_
  refine JP.qq rfl rfl rfl (XL.fa fo_core_Node_0 rfl rfl XL.qd) ?_
  refine JP.qq rfl rfl rfl (XL.ldM g_attr_Attr rfl (by rfl) rfl XL.qd) ?_
  refine JP.qq rfl rfl rfl (XL.fa fo_core_Caller_0 rfl rfl XL.qd) ?_
  refine JP.qq rfl rfl rfl (XL.fa fo_api_Who_0 rfl rfl XL.qd) ?_
  refine JP.qq rfl rfl rfl (XL.ld o_int rfl (by rfl) rfl XL.qd) ?_
  refine JP.qq rfl rfl rfl (XL.fa fo_core_Caller_0 rfl rfl XL.qd) ?_
  refine JP.qq rfl rfl rfl (XL.fa fo_api_Who_1 rfl rfl XL.qd) ?_
  refine JP.qq rfl rfl rfl (XL.ld o_int rfl (by rfl) rfl XL.qd) ?_
  refine JP.qq rfl rfl rfl (XL.fa fo_core_Caller_0 rfl rfl XL.qd) ?_
  refine JP.qq rfl rfl rfl (XL.fa fo_api_Who_2 rfl rfl XL.qd) ?_
  refine JP.qq rfl rfl rfl (XL.ld o_L_int rfl (by rfl) rfl XL.qd) ?_
  refine JP.qq rfl rfl rfl (XL.mv rfl rfl XL.qd) ?_
  refine JP.qq rfl rfl rfl (XL.call hb_attr_May rfl rfl (attr_May_fn _ rfl _ _ _) (tn) (by rintro _ _ ⟨rfl, rfl⟩; exact XL.qdp (fun w h => h))) ?_
  refine JP.ee rfl ?_
  refine XL.as rfl rfl ?_
  refine XL.ed ?_
  refine JP.done ?_
  refine XQ.thenN ?_
  refine XC.ret ?_
  exact XQ.ret (.inl rfl) rfl (rC (resT rfl) <| rN) [ndc b n p] (⟨rfl, rfl⟩) (fun w h => Sat.tail h)

theorem core_Node_fill_fn (b : Nat) (n : Nd) (p : Value) (d : List UInt8) (hd : d.length ≤ 1000000) : Does P F_core_Node_fill [pt b, S d] [ndc b n p] fun u cs => u = .tuple #[] ∧ cs = [ndc b { n with data := d, size := d.length, used := ((d.length : Int) + 128 - 1) / 128 * 128 } p] := by
  refine Does.mk (N := 27) fn_core_Node_fill rfl rfl rfl (fun F => ?_)
  simp only [List.cons_append, List.nil_append]
  refine XC.seq ?_
  refine XC.reg ?_
  refine XL.mv rfl rfl ?_
  refine XL.mv rfl rfl ?_
  refine XL.ncP rfl rfl ?_
  refine XL.fa fo_core_Node_1 rfl rfl ?_
  refine XL.st o_string rfl rfl rfl ?_
  refine XL.nil ?_
  refine XQ.thenN ?_
  refine XC.seq ?_
  refine XC.reg ?_
  refine XL.mv rfl rfl ?_
  refine XL.mv rfl rfl ?_
  refine XL.lenT u_string rfl rfl ?_
  refine XL.ncP rfl rfl ?_
  refine XL.fa fo_core_Node_0 rfl rfl ?_
  refine XL.fa fo_attr_Attr_5 rfl rfl ?_
  refine XL.st o_int rfl rfl rfl ?_
  refine XL.nil ?_
  refine XQ.thenN ?_
  refine XC.reg ?_
  refine XL.mv rfl rfl ?_
  refine XL.mv rfl rfl ?_
  refine XL.ncP rfl rfl ?_
  refine XL.fa fo_core_Node_0 rfl rfl ?_
  refine XL.fa fo_attr_Attr_5 rfl rfl ?_
  refine XL.ld o_int rfl (by rfl) rfl ?_
  refine XL.bin rfl rfl rfl (bAdd (by omega)) ?_
  refine XL.bin rfl rfl rfl (bSub (by omega)) ?_
  refine XL.bin rfl rfl rfl (bQuo (by omega)) ?_
  refine XL.bin rfl rfl rfl (bMul (by omega)) ?_
  refine XL.ncP rfl rfl ?_
  refine XL.fa fo_core_Node_0 rfl rfl ?_
  refine XL.fa fo_attr_Attr_6 rfl rfl ?_
  refine XL.st o_int rfl rfl rfl ?_
  refine XL.nil ?_
  exact XQ.ret (.inr rfl) rfl (rN) [ndc b { n with data := d, size := d.length, used := ((d.length : Int) + 128 - 1) / 128 * 128 } p] (⟨rfl, rfl⟩) (fun w h => h)

theorem core_sizable_fn (b : Nat) (n : Nd) (p : Value) (hk : n.kind = 1) (s : Int) (hs : 0 ≤ s) (hs2 : s ≤ 8192) : Does P F_core_sizable [pt b, I s] [ndc b n p] fun u cs => u = I 0 ∧ cs = [ndc b n p] := by
  refine Does.mk (N := 26) fn_core_sizable rfl rfl rfl (fun F => ?_)
  simp only [List.cons_append, List.nil_append]
  refine XC.seq ?_
  refine XC.reg ?_
  refine XL.as rfl rfl ?_
  refine XL.nil ?_
  refine XQ.thenN ?_
  refine XC.seq ?_
  refine XC.block ?_
  refine XC.seq ?_
  refine XC.reg ?_
  refine XL.mv rfl rfl ?_
  refine XL.ncP rfl rfl ?_
  refine XL.fa fo_core_Node_0 rfl rfl ?_
  refine XL.fa fo_attr_Attr_0 rfl rfl ?_
  refine XL.ld o_int rfl (by rfl) rfl ?_
  refine XL.bin rfl rfl rfl (bEqI) ?_
  refine XL.as rfl rfl ?_
  refine XL.nil ?_
  refine XQ.thenN ?_
  refine XC.condF' rfl (decide_eq_false (by omega)) ?_
  refine XC.seq ?_
  refine XC.reg ?_
  refine XL.mv rfl rfl ?_
  refine XL.ncP rfl rfl ?_
  refine XL.fa fo_core_Node_0 rfl rfl ?_
  refine XL.fa fo_attr_Attr_0 rfl rfl ?_
  refine XL.ld o_int rfl (by rfl) rfl ?_
  refine XL.bin rfl rfl rfl (bNeI) ?_
  refine XL.mv rfl rfl ?_
  refine XL.re 19 (u := .bool false) rfl (congrArg Value.bool (decide_eq_false (by omega))) ?_
  refine XL.mv rfl rfl ?_
  refine XL.bin rfl rfl rfl (bLss) ?_
  refine XL.pkF rfl rfl rfl ?_
  refine XL.as rfl rfl ?_
  refine XL.nil ?_
  refine XQ.thenN ?_
  refine XC.condF' rfl (decide_eq_false (by omega)) ?_
  refine XC.seq ?_
  refine XC.reg ?_
  refine XL.mv rfl rfl ?_
  refine XL.bin rfl rfl rfl (bGtr) ?_
  refine XL.as rfl rfl ?_
  refine XL.nil ?_
  refine XQ.thenN ?_
  refine XC.condF' rfl (decide_eq_false (by omega)) ?_
  refine XC.skip ?_
  refine XQ.blkN ?_
  refine XQ.thenN ?_
  refine XC.seq ?_
  refine XC.reg ?_
  refine XL.as rfl rfl ?_
  refine XL.nil ?_
  refine XQ.thenN ?_
  refine XC.ret ?_
  exact XQ.ret (.inl rfl) rfl (rC (resT rfl) <| rN) [ndc b n p] (⟨rfl, rfl⟩) (fun w h => h)
end Go.Proofs.YteeiccjglmehcaaGreat

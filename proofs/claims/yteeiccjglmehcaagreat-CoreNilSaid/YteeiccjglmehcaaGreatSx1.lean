/-
  The calculus Sx, part 1: the rules for single operations: moves, numbers, texts, tests, addresses, loads, stores, new blocks.
-/
import Derived.Test.YteeiccjglmehcaaGreatSx0
namespace Go.Sx
open Go

section
variable {P : Program} {N : Nat} {Q : Exit → Act → World → Prop} {L L' : List (Nat × Value)} {cs cs' : List Chunk} {ops : Array Oper} {l : List Oper}
variable {d : Nat} {ty : TypeId} {pos : String} {af : Array Edge} {g : Option (Nat × Bool)}

/-- May the operation run: its guard's value is known and is the wanted one. -/
def wOk (ops : Array Oper) (L : List (Nat × Value)) : Option (Nat × Bool) → Bool
  | none => true
  | some (j, want) => match (ops[j]?).bind (·.dst) with
    | some s => match lk L s with
      | some (.bool b) => b == want
      | _ => false
    | none => false
def wNo (ops : Array Oper) (L : List (Nat × Value)) : Option (Nat × Bool) → Bool
  | none => false
  | some (j, want) => match (ops[j]?).bind (·.dst) with
    | some s => match lk L s with
      | some (.bool b) => b != want
      | some _ => true
      | none => false
    | none => false
def chk (ops : Array Oper) (L : List (Nat × Value)) (N d : Nat) (g : Option (Nat × Bool)) : Bool := Nat.blt d N && wOk ops L g

theorem wOk.wanted {a : Act} {o : Oper} (hm : Mat N L a) (h : wOk ops L o.guard = true) : Region.wanted o (yielded ops a.tmps) = true := by
  unfold Region.wanted
  unfold wOk at h
  cases hg : o.guard with
  | none => rfl
  | some x =>
    obtain ⟨j, want⟩ := x
    rw [hg] at h
    simp only at h ⊢
    unfold yielded
    cases hs : (ops[j]?).bind (·.dst) with
    | none => rw [hs] at h; cases h
    | some s =>
      rw [hs] at h
      simp only at h
      cases hv : lk L s with
      | none => rw [hv] at h; cases h
      | some v =>
        rw [hv] at h
        have := hm.2.2 s v hv
        simp only [Option.bind_some, this]
        cases v with
        | bool b => simpa using h
        | _ => simp at h

theorem wNo.wanted {a : Act} {o : Oper} (hm : Mat N L a) (h : wNo ops L o.guard = true) : Region.wanted o (yielded ops a.tmps) = false := by
  unfold Region.wanted
  unfold wNo at h
  cases hg : o.guard with
  | none => rw [hg] at h; cases h
  | some x =>
    obtain ⟨j, want⟩ := x
    rw [hg] at h
    simp only at h ⊢
    unfold yielded
    cases hs : (ops[j]?).bind (·.dst) with
    | none => rw [hs] at h; cases h
    | some s =>
      rw [hs] at h
      simp only at h
      cases hv : lk L s with
      | none => rw [hv] at h; cases h
      | some v =>
        rw [hv] at h
        have := hm.2.2 s v hv
        simp only [Option.bind_some, this]
        cases v with
        | bool b => simpa using h
        | _ => simp

theorem chk.spec {g : Option (Nat × Bool)} (h : chk ops L N d g = true) : d < N ∧ wOk ops L g = true := by
  unfold chk at h
  simp only [Bool.and_eq_true] at h
  exact ⟨by have := h.1; simp only [Nat.blt] at this; exact Nat.lt_of_succ_le (Nat.le_of_ble_eq_true this), h.2⟩

/-- An operation with a value: of one of many results. -/
theorem XL.stepE {α : Type} {o : Oper} {v : α → Value} {cx : α → List Chunk} (ho : o.dst = some d) (hc : chk ops L N d o.guard = true)
    (hx : ∀ a w, Mat N L a → Sat cs w → ∃ z w', (execOp a.eval o).run P w = .ok (.value (v z)) w' ∧ Sat (cx z) w')
    (k : ∀ z, XL P N ops Q l ((d, v z) :: L) (cx z)) : XL P N ops Q (o :: l) L cs := by
  obtain ⟨hd, hg⟩ := chk.spec hc
  intro a w hm hs
  obtain ⟨z, w', hr, hs'⟩ := hx a w hm hs
  refine wpList_step fun K hK => ?_
  rw [if_pos (wOk.wanted hm hg)]
  unfold Oper.wp
  rw [hr, Oper.upon_value, ho]
  exact hK _ _ (k z _ _ (hm.put hd _) hs')

theorem XL.stepV {o : Oper} {v : Value} (ho : o.dst = some d) (hc : chk ops L N d o.guard = true)
    (hx : ∀ a w, Mat N L a → Sat cs w → ∃ w', (execOp a.eval o).run P w = .ok (.value v) w' ∧ Sat cs' w')
    (k : XL P N ops Q l ((d, v) :: L) cs') : XL P N ops Q (o :: l) L cs :=
  XL.stepE (α := Unit) (v := fun _ => v) (cx := fun _ => cs') ho hc (fun a w hm hs => let ⟨w', h⟩ := hx a w hm hs; ⟨(), w', h⟩) (fun _ => k)

/-- An operation that looks at no memory. -/
theorem XL.stepP {o : Oper} {v : Value} (ho : o.dst = some d) (hc : chk ops L N d o.guard = true)
    (hx : ∀ a w, Mat N L a → (execOp a.eval o).run P w = .ok (.value v) w) (k : XL P N ops Q l ((d, v) :: L) cs) : XL P N ops Q (o :: l) L cs :=
  XL.stepV ho hc (fun a w hm hs => ⟨w, hx a w hm, hs⟩) k

/-- An operation without a value. -/
theorem XL.stepU {o : Oper} (ho : o.dst = none) (hc : wOk ops L o.guard = true)
    (hx : ∀ a w, Mat N L a → Sat cs w → ∃ w', (execOp a.eval o).run P w = .ok .skip w' ∧ Sat cs' w')
    (k : XL P N ops Q l L cs') : XL P N ops Q (o :: l) L cs := by
  intro a w hm hs
  obtain ⟨w', hr, hs'⟩ := hx a w hm hs
  refine wpList_step fun K hK => ?_
  rw [if_pos (wOk.wanted hm hc)]
  unfold Oper.wp
  rw [hr, Oper.upon_skip, ho]
  exact hK _ _ (k _ _ hm hs')

/-- An operation whose guard says no. -/
theorem XL.no {op : Op} (hN : Nat.blt d N = true) (hg : wNo ops L g = true) (k : XL P N ops Q l ((d, undef) :: L) cs) :
    XL P N ops Q (⟨some d, op, ty, pos, af, g⟩ :: l) L cs := by
  have hd : d < N := by simp only [Nat.blt] at hN; exact Nat.lt_of_succ_le (Nat.le_of_ble_eq_true hN)
  intro a w hm hs
  refine wpList_step fun K hK => ?_
  rw [if_neg (by rw [wNo.wanted hm hg]; decide)]
  exact hK _ _ (k _ _ (hm.put hd _) hs)

/-- Whether or not. -/
theorem XL.split (s : Nat) {p : Prop} [Decidable p] (hs : lk L s = some (.bool (decide p)))
    (h : p → XL P N ops Q l ((s, .bool true) :: L) cs) (k : ¬ p → XL P N ops Q l ((s, .bool false) :: L) cs) : XL P N ops Q l L cs := by
  have key : ∀ (b : Bool) (a : Act), Mat N L a → lk L s = some (.bool b) → Mat N ((s, .bool b) :: L) a := by
    intro b a hm hb
    refine ⟨hm.1, hm.2.1, fun j u hj => ?_⟩
    simp only [lk] at hj
    cases he : Nat.beq s j with
    | true =>
      rw [he] at hj
      obtain rfl : Value.bool b = u := by simpa using hj
      rw [← Nat.eq_of_beq_eq_true he]
      exact hm.2.2 s _ hb
    | false => rw [he] at hj; exact hm.2.2 j u hj
  intro a w hm hw
  by_cases hp : p
  · exact h hp a w (key true a hm (by rw [hs, decide_eq_true hp])) hw
  · exact k hp a w (key false a hm (by rw [hs, decide_eq_false hp])) hw

theorem XL.splitB (s : Nat) {b : Bool} (hs : lk L s = some (.bool b))
    (h : b = true → XL P N ops Q l ((s, .bool true) :: L) cs) (k : b = false → XL P N ops Q l ((s, .bool false) :: L) cs) : XL P N ops Q l L cs :=
  XL.split s (p := b = true) (by rw [hs]; cases b <;> rfl) h (fun hn => k (by simpa using hn))

/-- A slot's value in other words. -/
theorem XL.re (s : Nat) {v u : Value} (hs : lk L s = some v) (e : v = u) (k : XL P N ops Q l ((s, u) :: L) cs) : XL P N ops Q l L cs := by
  subst e
  intro a w hm hw
  refine k a w ⟨hm.1, hm.2.1, fun j x hj => ?_⟩ hw
  simp only [lk] at hj
  cases he : Nat.beq s j with
  | true =>
    rw [he] at hj
    obtain rfl : v = x := by simpa using hj
    rw [← Nat.eq_of_beq_eq_true he]
    exact hm.2.2 s _ hs
  | false => rw [he] at hj; exact hm.2.2 j x hj

/-! ### Moves -/

theorem XL.mv {x : Operand} {v : Value} (hx : ev L x = some v) (hc : chk ops L N d g = true) (k : XL P N ops Q l ((d, v) :: L) cs) :
    XL P N ops Q (⟨some d, .move x, ty, pos, af, g⟩ :: l) L cs :=
  XL.stepP rfl hc (fun a w hm => by simp [execOp, hm.eval hx]) k
theorem XL.as {x : Operand} {v : Value} (hx : ev L x = some v) (hc : chk ops L N d g = true) (k : XL P N ops Q l ((d, v) :: L) cs) :
    XL P N ops Q (⟨some d, .assign x, ty, pos, af, g⟩ :: l) L cs :=
  XL.stepP rfl hc (fun a w hm => by simp [execOp, hm.eval hx]) k
theorem XL.pkT {c x y : Operand} {v : Value} (hc' : ev L c = some (.bool true)) (hx : ev L x = some v) (hc : chk ops L N d g = true) (k : XL P N ops Q l ((d, v) :: L) cs) :
    XL P N ops Q (⟨some d, .pick c x y, ty, pos, af, g⟩ :: l) L cs :=
  XL.stepP rfl hc (fun a w hm => by simp [execOp, hm.eval hc', hm.eval hx, asBool]) k
theorem XL.pkF {c x y : Operand} {v : Value} (hc' : ev L c = some (.bool false)) (hx : ev L y = some v) (hc : chk ops L N d g = true) (k : XL P N ops Q l ((d, v) :: L) cs) :
    XL P N ops Q (⟨some d, .pick c x y, ty, pos, af, g⟩ :: l) L cs :=
  XL.stepP rfl hc (fun a w hm => by simp [execOp, hm.eval hc', hm.eval hx, asBool]) k
/-- Both arms known, a test between truths. -/
theorem XL.pkQ {c x y : Operand} {p q r : Prop} [Decidable p] [Decidable q] [Decidable r] (hc' : ev L c = some (.bool (decide p))) (hx : ev L x = some (.bool (decide q))) (hy : ev L y = some (.bool (decide r))) (hc : chk ops L N d g = true) (k : XL P N ops Q l ((d, .bool (decide ((p ∧ q) ∨ (¬ p ∧ r)))) :: L) cs) :
    XL P N ops Q (⟨some d, .pick c x y, ty, pos, af, g⟩ :: l) L cs :=
  XL.stepP rfl hc (fun a w hm => by by_cases hp : p <;> simp [execOp, hm.eval hc', hm.eval hx, hm.eval hy, asBool, hp]) k
theorem XL.ex {x : Operand} {vs : List Value} {i : Nat} {v : Value} (hx : ev L x = some (.tuple vs.toArray)) (hi : vs[i]? = some v) (hc : chk ops L N d g = true)
    (k : XL P N ops Q l ((d, v) :: L) cs) : XL P N ops Q (⟨some d, .extract x i, ty, pos, af, g⟩ :: l) L cs :=
  XL.stepP rfl hc (fun a w hm => by simp [execOp, hm.eval hx, Instr.extract, hi]) k
theorem XL.ncP {x : Operand} {p : Addr} (hx : ev L x = some (.pointer (some p))) (hc : chk ops L N d g = true)
    (k : XL P N ops Q l ((d, .pointer (some p)) :: L) cs) : XL P N ops Q (⟨some d, .nilCheck x, ty, pos, af, g⟩ :: l) L cs :=
  XL.stepP rfl hc (fun a w hm => by simp [execOp, hm.eval hx]) k
theorem XL.mkf {fn : Fn} {first captured : Array Operand} {vf vc : List Value} (hx : first.toList.map (ev L) = vf.map some) (hy : captured.toList.map (ev L) = vc.map some)
    (hc : chk ops L N d g = true) (k : XL P N ops Q l ((d, .func fn vf.toArray vc.toArray) :: L) cs) : XL P N ops Q (⟨some d, .makeFunc fn first captured, ty, pos, af, g⟩ :: l) L cs := by
  have key : ∀ (xs : Array Operand) (vs : List Value), xs.toList.map (ev L) = vs.map some → ∀ a, Mat N L a → xs.map a.eval = vs.toArray := by
    intro xs vs h a hm
    have : ∀ (ys : List Operand) (us : List Value), ys.map (ev L) = us.map some → ys.map a.eval = us := by
      intro ys
      induction ys with
      | nil => intro us h; cases us <;> simp_all
      | cons y ys ih =>
        intro us h
        cases us with
        | nil => simp at h
        | cons u us =>
          simp only [List.map_cons, List.cons.injEq] at h ⊢
          exact ⟨hm.eval h.1, ih us h.2⟩
    apply Array.ext'
    rw [Array.toList_map]
    exact this xs.toList vs h
  exact XL.stepP rfl hc (fun a w hm => by simp [execOp, Instr.makeFunc, key _ _ hx a hm, key _ _ hy a hm]) k

/-! ### Numbers, texts, tests -/

def BinR (P : Program) (op : BinOp) (t : TypeId) (x y : Operand) (vx vy v : Value) : Prop :=
  ∀ w, (do eqGuard op t x y vx vy; binOp op t vx vy : Sem Value).run P w = .ok v w

theorem XL.bin {op : BinOp} {t t' : TypeId} {x y : Operand} {vx vy v : Value} (hx : ev L x = some vx) (hy : ev L y = some vy) (hc : chk ops L N d g = true)
    (hb : BinR P op t x y vx vy v) (k : XL P N ops Q l ((d, v) :: L) cs) : XL P N ops Q (⟨some d, .binOp op t x y t', ty, pos, af, g⟩ :: l) L cs :=
  XL.stepP rfl hc (fun a w hm => by
    have := hb w
    simp only [execOp, hm.eval hx, hm.eval hy]
    rw [Sem.run_bind, this]; rfl) k

section
variable {t : TypeId} {x y : Operand}
theorem bAdd {a b : Int} (h : -9223372036854775808 ≤ a + b ∧ a + b ≤ 9223372036854775807) : BinR P .add t x y (.int .i64 a) (.int .i64 b) (.int .i64 (a + b)) := by
  intro w; simp [eqGuard, binOp, Op.intArith, IntWalk.i64_in _ h]
theorem bSub {a b : Int} (h : -9223372036854775808 ≤ a - b ∧ a - b ≤ 9223372036854775807) : BinR P .sub t x y (.int .i64 a) (.int .i64 b) (.int .i64 (a - b)) := by
  intro w; simp [eqGuard, binOp, Op.intArith, IntWalk.i64_in _ h]
theorem bMul {a b : Int} (h : -9223372036854775808 ≤ a * b ∧ a * b ≤ 9223372036854775807) : BinR P .mul t x y (.int .i64 a) (.int .i64 b) (.int .i64 (a * b)) := by
  intro w; simp [eqGuard, binOp, Op.intArith, IntWalk.i64_in _ h]
theorem bAddK {k : IntKind} {a b : Int} : BinR P .add t x y (.int k a) (.int k b) (.int k (k.wrap (a + b))) := by
  intro w; simp [eqGuard, binOp, Op.intArith]
theorem bSubK {k : IntKind} {a b : Int} : BinR P .sub t x y (.int k a) (.int k b) (.int k (k.wrap (a - b))) := by
  intro w; simp [eqGuard, binOp, Op.intArith]
theorem bMulK {k : IntKind} {a b : Int} : BinR P .mul t x y (.int k a) (.int k b) (.int k (k.wrap (a * b))) := by
  intro w; simp [eqGuard, binOp, Op.intArith]
theorem bQuo {a b : Int} (h : 0 ≤ a ∧ a ≤ 9223372036854775807 ∧ 1 ≤ b) : BinR P .quo t x y (.int .i64 a) (.int .i64 b) (.int .i64 (a / b)) := by
  intro w
  have : b ≠ 0 := by omega
  simp [eqGuard, binOp, Op.intDiv, this, IntWalk.i64_quo _ _ h]
theorem bQuoT {a b : Int} (h : -9223372036854775808 ≤ a ∧ a ≤ 9223372036854775807 ∧ 1 ≤ b) : BinR P .quo t x y (.int .i64 a) (.int .i64 b) (.int .i64 (a.tdiv b)) := by
  intro w
  have : b ≠ 0 := by omega
  simp [eqGuard, binOp, Op.intDiv, this, IntWalk.i64_quo' _ _ h]
theorem bRem {a b : Int} (h : 0 ≤ a ∧ 1 ≤ b) : BinR P .rem t x y (.int .i64 a) (.int .i64 b) (.int .i64 (a % b)) := by
  intro w
  have : b ≠ 0 := by omega
  simp [eqGuard, binOp, Op.intDiv, this, IntWalk.rem_in _ _ h.1]
theorem bRemT {k : IntKind} {a b : Int} (h : b ≠ 0) : BinR P .rem t x y (.int k a) (.int k b) (.int k (a.tmod b)) := by
  intro w; simp [eqGuard, binOp, Op.intDiv, h]
theorem bLss {k : IntKind} {a b : Int} : BinR P .lss t x y (.int k a) (.int k b) (.bool (decide (a < b))) := by
  intro w; simp [eqGuard, binOp, Op.intCmp]
theorem bLeq {k : IntKind} {a b : Int} : BinR P .leq t x y (.int k a) (.int k b) (.bool (decide (a ≤ b))) := by
  intro w; simp [eqGuard, binOp, Op.intCmp]
theorem bGtr {k : IntKind} {a b : Int} : BinR P .gtr t x y (.int k a) (.int k b) (.bool (decide (b < a))) := by
  intro w; simp [eqGuard, binOp, Op.intCmp]
theorem bGeq {k : IntKind} {a b : Int} : BinR P .geq t x y (.int k a) (.int k b) (.bool (decide (b ≤ a))) := by
  intro w; simp [eqGuard, binOp, Op.intCmp]
theorem bEqI {k : IntKind} {a b : Int} : BinR P .eql t x y (.int k a) (.int k b) (.bool (decide (a = b))) := by
  intro w; simp [eqGuard, binOp, Op.intCmp]; rw [Bool.eq_iff_iff]; simp
theorem bNeI {k : IntKind} {a b : Int} : BinR P .neq t x y (.int k a) (.int k b) (.bool (decide (a ≠ b))) := by
  intro w; simp [eqGuard, binOp, Op.intCmp]; rw [Bool.eq_iff_iff]; simp

theorem bShr {k ky : IntKind} {a b : Int} (h : 0 ≤ b) : BinR P .shr t x y (.int k a) (.int ky b) (.int k (a.fdiv (2 ^ (min b.toNat k.bits)))) := by
  intro w
  have : ¬ b < 0 := by omega
  simp [eqGuard, binOp, Op.shift, this]
theorem bShl {k ky : IntKind} {a b : Int} (h : 0 ≤ b) : BinR P .shl t x y (.int k a) (.int ky b) (.int k (k.wrap (a * 2 ^ (min b.toNat k.bits)))) := by
  intro w
  have : ¬ b < 0 := by omega
  simp [eqGuard, binOp, Op.shift, this]
theorem bAndK {k : IntKind} {a b : Int} : BinR P .and t x y (.int k a) (.int k b) (.int k (k.wrap ((BitVec.ofInt k.bits a &&& BitVec.ofInt k.bits b).toNat : Int))) := by
  intro w; simp [eqGuard, binOp, Op.intBits]
theorem bOrK {k : IntKind} {a b : Int} : BinR P .or t x y (.int k a) (.int k b) (.int k (k.wrap ((BitVec.ofInt k.bits a ||| BitVec.ofInt k.bits b).toNat : Int))) := by
  intro w; simp [eqGuard, binOp, Op.intBits]

/-- A text by its bytes. -/
abbrev S (l : List UInt8) : Value := .string ⟨l.toArray⟩
theorem S_of (s : ByteArray) : Value.string s = S s.data.toList := rfl
theorem toList_S (l : List UInt8) : (⟨l.toArray⟩ : ByteArray).toList = l := by simp

theorem bAddS {a b : List UInt8} (h : a.length + b.length ≤ 9223372036854775807) : BinR P .add t x y (S a) (S b) (S (a ++ b)) := by
  intro w
  have e : ((⟨a.toArray⟩ : ByteArray) ++ ⟨b.toArray⟩) = ⟨(a ++ b).toArray⟩ := by
    apply ByteArray.ext; simp
  have h' : ¬ (((⟨a.toArray⟩ : ByteArray).size + (⟨b.toArray⟩ : ByteArray).size : Nat) : Int) > IntKind.i64.max := by
    simp [ByteArray.size, IntKind.max, IntKind.signed, IntKind.bits]; omega
  simp only [eqGuard, binOp, Op.stringOp]
  simp only [Sem.run_bind, if_neg h', e]
  rfl
theorem bEqS {a b : List UInt8} : BinR P .eql t x y (S a) (S b) (.bool (decide (a = b))) := by
  intro w
  have e : (a == b) = decide (a = b) := by rw [Bool.eq_iff_iff]; simp
  simp [eqGuard, binOp, Op.stringOp, e]
theorem bNeS {a b : List UInt8} : BinR P .neq t x y (S a) (S b) (.bool (decide (a ≠ b))) := by
  intro w
  have e : (a == b) = decide (a = b) := by rw [Bool.eq_iff_iff]; simp
  simp [eqGuard, binOp, Op.stringOp, e]
theorem eqPtr {e : TypeId} {p q : Option Addr} (ht : P.underlying t = some (.pointer e)) (h : p = none ∨ q = none) (d : Nat) (w : World) : (Op.equalIn (d + 1) t (.pointer p) (.pointer q)).run P w = .ok (decide (p = q)) w := by
  rcases h with rfl | rfl
  · cases q <;> simp [Op.equalIn, run_underlying ht]
  · cases p <;> simp [Op.equalIn, run_underlying ht]
theorem eqBool {a b : Bool} (ht : P.underlying t = some .bool) (d : Nat) (w : World) : (Op.equalIn (d + 1) t (.bool a) (.bool b)).run P w = .ok (decide (a = b)) w := by
  have e : (a == b) = decide (a = b) := by cases a <;> cases b <;> rfl
  simp [Op.equalIn, run_underlying ht, e]
theorem bEqOf {vx vy : Value} {b : Bool} (hb : ∀ w, (binOp .eql t vx vy).run P w = .ok (.bool b) w) (hg : ∀ w, (eqGuard .eql t x y vx vy).run P w = .ok () w) : BinR P .eql t x y vx vy (.bool b) := by
  intro w; rw [Sem.run_bind, hg]; exact hb w
theorem bNeOf {vx vy : Value} {b : Bool} (hb : ∀ w, (binOp .neq t vx vy).run P w = .ok (.bool b) w) (hg : ∀ w, (eqGuard .neq t x y vx vy).run P w = .ok () w) : BinR P .neq t x y vx vy (.bool b) := by
  intro w; rw [Sem.run_bind, hg]; exact hb w
theorem equal_of {vx vy : Value} {b : Bool} (h : ∀ d w, (Op.equalIn (d + 1) t vx vy).run P w = .ok b w) (w : World) : (Op.equal t vx vy).run P w = .ok b w := h 9999 w

theorem bEqP {e : TypeId} {p q : Option Addr} (ht : P.underlying t = some (.pointer e)) (h : p = none ∨ q = none) : BinR P .eql t x y (.pointer p) (.pointer q) (.bool (decide (p = q))) :=
  bEqOf (fun w => by simp only [binOp, Sem.run_bind, equal_of (eqPtr ht h)]; rfl) (fun w => rfl)
theorem bNeP {e : TypeId} {p q : Option Addr} (ht : P.underlying t = some (.pointer e)) (h : p = none ∨ q = none) : BinR P .neq t x y (.pointer p) (.pointer q) (.bool (decide (p ≠ q))) :=
  bNeOf (fun w => by simp only [binOp, Sem.run_bind, equal_of (eqPtr ht h)]; simp) (fun w => rfl)
theorem bEqPF {e : TypeId} {p : Addr} (ht : P.underlying t = some (.pointer e)) : BinR P .eql t x y (.pointer (some p)) (.pointer none) (.bool false) := bEqP ht (.inr rfl)
theorem bNePF {e : TypeId} {p : Addr} (ht : P.underlying t = some (.pointer e)) : BinR P .neq t x y (.pointer (some p)) (.pointer none) (.bool true) := bNeP ht (.inr rfl)
theorem bEqPT {e : TypeId} (ht : P.underlying t = some (.pointer e)) : BinR P .eql t x y (.pointer none) (.pointer none) (.bool true) := bEqP ht (.inr rfl)
theorem bNePT {e : TypeId} (ht : P.underlying t = some (.pointer e)) : BinR P .neq t x y (.pointer none) (.pointer none) (.bool false) := bNeP ht (.inr rfl)
theorem bEqB {a b : Bool} (ht : P.underlying t = some .bool) : BinR P .eql t x y (.bool a) (.bool b) (.bool (decide (a = b))) :=
  bEqOf (fun w => by simp only [binOp, Sem.run_bind, equal_of (eqBool ht)]; rfl) (fun w => rfl)
theorem bNeB {a b : Bool} (ht : P.underlying t = some .bool) : BinR P .neq t x y (.bool a) (.bool b) (.bool (decide (a ≠ b))) :=
  bNeOf (fun w => by simp only [binOp, Sem.run_bind, equal_of (eqBool ht)]; simp) (fun w => rfl)
end
end
end Go.Sx

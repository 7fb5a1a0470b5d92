/-
  The calculus Sx, part 3: functions: what is claimed of a call, entering, calling, returning; texts; conversions of numbers.
-/
import Derived.Test.YteeiccjglmehcaaGreatSx2
namespace Go.Sx
open Go

/-- A call of function 'f' at 'args' in a memory that holds 'cs': it returns; 'R': the value, and what the memory holds behind it. -/
def Does (P : Program) (f : FuncId) (args : List Value) (cs : List Chunk) (R : Value → List Chunk → Prop) : Prop :=
  ∀ (F : Chunk) (w : World), Sat (cs ++ [F]) w → Calls P f args.toArray w fun e w' => ∃ v cs', e = .returned v ∧ R v cs' ∧ Sat (cs' ++ [F]) w'

theorem Does.mono {P : Program} {f : FuncId} {args : List Value} {cs : List Chunk} {R R' : Value → List Chunk → Prop} (h : Does P f args cs R) (k : ∀ v c, R v c → R' v c) : Does P f args cs R' :=
  fun F w hs => (h F w hs).mono fun _ _ ⟨v, c, h1, h2, h3⟩ => ⟨v, c, h1, k v c h2, h3⟩

/-- What a function's code must come to. -/
def Post (P : Program) (fn : Func) (R : Value → List Chunk → Prop) (F : Chunk) : Exit → Act → World → Prop :=
  bodyPost P fn fun e w' => ∃ v cs', e = .returned v ∧ R v cs' ∧ Sat (cs' ++ [F]) w'

def argsL : Nat → List Value → List (Nat × Value)
  | _, [] => []
  | i, v :: vs => (i, v) :: argsL (i + 1) vs

theorem argsL_lk : ∀ (vs : List Value) (i k : Nat) (v : Value), lk (argsL i vs) k = some v → i ≤ k ∧ vs[k - i]? = some v
  | [], _, _, _, h => by simp [argsL, lk] at h
  | u :: vs, i, k, v, h => by
    simp only [argsL, lk] at h
    cases hb : Nat.beq i k with
    | true =>
      rw [hb] at h
      obtain rfl := Nat.eq_of_beq_eq_true hb
      exact ⟨Nat.le_refl _, by simpa using h⟩
    | false =>
      rw [hb] at h
      obtain ⟨h1, h2⟩ := argsL_lk vs (i + 1) k v h
      refine ⟨by omega, ?_⟩
      rw [show k - i = (k - (i + 1)) + 1 by omega]
      simpa using h2

section
variable {P : Program} {N : Nat} {Q : Exit → Act → World → Prop} {L L' : List (Nat × Value)} {cs cs' r : List Chunk} {ops : Array Oper} {l : List Oper}
variable {d : Nat} {ty : TypeId} {pos : String} {af : Array Edge} {g : Option (Nat × Bool)}

theorem Does.mk {f : FuncId} {fn : Func} {c : Code} {args : List Value} {R : Value → List Chunk → Prop} (hf : P.funcs[f]? = some fn) (hb : fn.body = some c) (hn : fn.ntmps = N)
    (ha : Nat.ble args.length N = true) (h : ∀ F, XC P N (Post P fn R F) c (argsL 0 args) (cs ++ [F])) : Does P f args cs R := by
  intro F w hs
  refine calls_of_wp hf hb (h F _ w ⟨?_, rfl, fun k v hk => ?_⟩ hs)
  · have := Nat.le_of_ble_eq_true ha
    simp; omega
  · obtain ⟨_, h2⟩ := argsL_lk args 0 k v hk
    simp only [Nat.sub_zero] at h2
    have hlt : k < args.length := (List.getElem?_eq_some_iff.1 h2).1
    rw [Array.getElem?_append]
    simp [hlt]
    exact (List.getElem?_eq_some_iff.1 h2).2

/-! ### Returns -/

def resM (a : Act) : ResultVar → Sem Value
  | .tmp t => pure (a.tmps.getD t undef)
  | .cell p t => do loadVar t (← asAddr (a.tmps.getD p undef))

/-- What a result variable holds. -/
def ResV (N : Nat) (P : Program) (L : List (Nat × Value)) (cs : List Chunk) (rv : ResultVar) (v : Value) : Prop :=
  ∀ a w, Mat N L a → Sat cs w → (resM a rv).run P w = .ok v w

theorem resT {t : Tmp} {v : Value} (h : lk L t = some v) : ResV N P L cs (.tmp t) v := by
  intro a w hm _
  simp [resM, Array.getD_eq_getD_getElem?, hm.2.2 t v h]
theorem resC {p : Tmp} {t : TypeId} {b o : Nat} {e : TypeId} {xs : List Value} {v : Value} (ht : one P t = true) (h : lk L p = some (.pointer (some ⟨b, o, none⟩))) [hb : AtB cs b xs e] (hv : xs[o]? = some v) :
    ResV N P L cs (.cell p t) v := by
  intro a w hm hs
  have hh := (hb.get hs).2
  have := run_load1 (P := P) (w := w) (b := b) (o := o) (v := v) ht (by rw [cell_at hh]; simpa using hv)
  simp only [Instr.loadAt, Instr.sureAddr, Sem.run_bind, Sem.run_pure, Result.andThen_ok] at this
  simp [resM, Array.getD_eq_getD_getElem?, hm.2.2 p _ h, asAddr, this]
theorem resN {p : Tmp} {t : TypeId} {b o n : Nat} {e : TypeId} {xs vs : List Value} (ht : aggN P t = some n) (h : lk L p = some (.pointer (some ⟨b, o, none⟩))) [hb : AtB cs b xs e]
    (hn : Nat.beq vs.length n = true) (hv : (xs.drop o).take n = vs) : ResV N P L cs (.cell p t) (.agg vs.toArray) := by
  intro a w hm hs
  have hh := (hb.get hs).2
  have := run_loadN (P := P) (w := w) (b := b) (o := o) (vs := vs) ht (Nat.eq_of_beq_eq_true hn) (fun j v hj => by
    rw [cell_at hh]
    subst hv
    rw [List.getElem?_take, List.getElem?_drop] at hj
    split at hj
    · simpa using hj
    · cases hj)
  simp only [Instr.loadAt, Instr.sureAddr, Sem.run_bind, Sem.run_pure, Result.andThen_ok] at this
  simp [resM, Array.getD_eq_getD_getElem?, hm.2.2 p _ h, asAddr, this]

def ResVs (N : Nat) (P : Program) (L : List (Nat × Value)) (cs : List Chunk) : List ResultVar → List Value → Prop
  | [], [] => True
  | x :: xs, v :: vs => ResV N P L cs x v ∧ ResVs N P L cs xs vs
  | _, _ => False

theorem rN : ResVs N P L cs [] [] := trivial
theorem rC {x : ResultVar} {xs : List ResultVar} {v : Value} {vs : List Value} (h : ResV N P L cs x v) (k : ResVs N P L cs xs vs) : ResVs N P L cs (x :: xs) (v :: vs) := ⟨h, k⟩

def tupleOf : List Value → Value
  | [v] => v
  | vs => .tuple vs.toArray

theorem ResVs.run {a : Act} {w : World} (hm : Mat N L a) (hs : Sat cs w) : ∀ (rs : List ResultVar) (vs : List Value), ResVs N P L cs rs vs → (rs.mapM (resM a)).run P w = .ok vs w
  | [], [], _ => by simp
  | [], _ :: _, h => h.elim
  | _ :: _, [], h => h.elim
  | x :: rs, v :: vs, h => by
    have h1 := h.1 a w hm hs
    have h2 := ResVs.run hm hs rs vs h.2
    rw [List.mapM_cons, Sem.run_bind, h1, Result.andThen_ok, Sem.run_bind, h2]
    rfl

theorem results_run {fn : Func} {a : Act} {w : World} {rs : List ResultVar} {vs : List Value} (hr : fn.results = rs.toArray) (hm : Mat N L a) (hs : Sat cs w) (h : ResVs N P L cs rs vs) :
    (results fn a.tmps).run P w = .ok (tupleOf vs) w := by
  have h2 := ResVs.run hm hs rs vs h
  have e : results fn a.tmps = (do let vs ← fn.results.mapM (resM a); pure (if h : vs.size = 1 then vs[0] else .tuple vs)) := by
    unfold results
    congr 1
  rw [e, hr, List.mapM_toArray, Sem.run_bind, Sem.run_map, h2]
  simp only [Result.andThen_ok, Sem.run_pure]
  match vs with
  | [] => rfl
  | [v] => rfl
  | _ :: _ :: _ => rfl

/-- The function returns: its results, what the caller gets. -/
theorem XQ.ret {fn : Func} {rs : List ResultVar} {vs : List Value} {R : Value → List Chunk → Prop} {F : Chunk} {ex : Exit} (he : ex = .ret ∨ ex = .normal) (hr : fn.results = rs.toArray) (h : ResVs N P L cs rs vs)
    (cs' : List Chunk) (hR : R (tupleOf vs) cs') (hs : ∀ w, Sat cs w → Sat (cs' ++ [F]) w) : XQ N (Post P fn R F) ex L cs := by
  intro a w hm hw
  have := results_run hr hm hw h
  rcases he with rfl | rfl <;> exact ⟨hm.2.1, _, this, _, _, rfl, hR, hs w hw⟩

/-! ### Calls -/

/-- The function has a body (and is none that the model meets by itself). -/
def hasBody (P : Program) (f : FuncId) : Bool :=
  match P.funcs[f]? with
  | some fn => fn.body.isSome && fn.name != "runtime.NumGoroutine"
  | none => false

theorem hasBody.run {f : FuncId} (h : hasBody P f = true) (args : Array Value) (w : World) : (callFunc f args).run P w = .ok (.enter f args) w := by
  unfold hasBody at h
  cases hf : P.funcs[f]? with
  | none => rw [hf] at h; cases h
  | some fn =>
    rw [hf] at h
    simp only [Bool.and_eq_true] at h
    obtain ⟨h1, h2⟩ := h
    have h2' : fn.name ≠ "runtime.NumGoroutine" := by simpa using h2
    simp only [callFunc, Sem.run_bind, run_program, Result.andThen_ok, hf]
    rw [if_neg (by simpa using h2')]
    cases hb : fn.body with
    | none => rw [hb] at h1; cases h1
    | some c => simp

def evs (L : List (Nat × Value)) : List Operand → Option (List Value)
  | [] => some []
  | x :: xs => match ev L x, evs L xs with
    | some v, some vs => some (v :: vs)
    | _, _ => none

theorem evs.map {a : Act} (hm : Mat N L a) : ∀ {xs : List Operand} {vs : List Value}, evs L xs = some vs → xs.map a.eval = vs
  | [], vs, h => by simp [evs] at h; simp [h]
  | x :: xs, vs, h => by
    simp only [evs] at h
    split at h
    · rename_i v us h1 h2
      obtain rfl := by simpa using h
      simp [hm.eval h1, evs.map hm h2]
    · cases h

theorem XL.callG {o : Oper} {f : FuncId} {args : List Value} {need rest : List Chunk} {R : Value → List Chunk → Prop} (hd : o.dst = some d) (hc : chk ops L N d o.guard = true)
    (hrun : ∀ a w, Mat N L a → (execOp a.eval o).run P w = .ok (.enter f args.toArray) w)
    (h : Does P f args need R) (ht : Take cs need rest) (k : ∀ v cs', R v cs' → XL P N ops Q l ((d, v) :: L) (cs' ++ rest)) : XL P N ops Q (o :: l) L cs := by
  obtain ⟨hdN, hg⟩ := chk.spec hc
  intro a w hm hs
  refine wpList_step fun K hK => ?_
  rw [if_pos (wOk.wanted hm hg)]
  unfold Oper.wp
  rw [hrun a w hm, Oper.upon_enter, hd]
  refine (h (star rest) w ((hs.perm ht).fold)).mono ?_
  rintro e w' ⟨v, cs', rfl, hR, hs'⟩
  exact hK _ _ (k v cs' hR _ _ (hm.put hdN _) hs'.unfold)

/-- A call of a function of the program. -/
theorem XL.call {f : FuncId} {xs : List Operand} {ats : Array TypeId} {args : List Value} {need rest : List Chunk} {R : Value → List Chunk → Prop} (hb : hasBody P f = true) (hx : evs L xs = some args)
    (hc : chk ops L N d g = true) (h : Does P f args need R) (ht : Take cs need rest) (k : ∀ v cs', R v cs' → XL P N ops Q l ((d, v) :: L) (cs' ++ rest)) :
    XL P N ops Q (⟨some d, .call ⟨.value (.func f), xs.toArray, ats⟩, ty, pos, af, g⟩ :: l) L cs :=
  XL.callG rfl hc (fun a w hm => by
    have e : xs.toArray.map a.eval = args.toArray := by
      apply Array.ext'; simp [evs.map hm hx]
    simp only [execOp, resolve, e, Act.eval, Deferred.ofValue, Sem.run_bind, Sem.run_pure, Result.andThen_ok, invoke]
    simp [hasBody.run hb]) h ht k

/-- A call of a function value. -/
theorem XL.callV {fx : Operand} {f : FuncId} {xs : List Operand} {ats : Array TypeId} {args captured : List Value} {need rest : List Chunk} {R : Value → List Chunk → Prop} (hb : hasBody P f = true)
    (hfx : ev L fx = some (.func (.func f) #[] captured.toArray)) (hx : evs L xs = some args)
    (hc : chk ops L N d g = true) (h : Does P f (args ++ captured) need R) (ht : Take cs need rest) (k : ∀ v cs', R v cs' → XL P N ops Q l ((d, v) :: L) (cs' ++ rest)) :
    XL P N ops Q (⟨some d, .call ⟨.value fx, xs.toArray, ats⟩, ty, pos, af, g⟩ :: l) L cs :=
  XL.callG rfl hc (fun a w hm => by
    have e : xs.toArray.map a.eval = args.toArray := by
      apply Array.ext'; simp [evs.map hm hx]
    simp only [execOp, resolve, e, hm.eval hfx, Deferred.ofValue, Sem.run_bind, Sem.run_pure, Result.andThen_ok, invoke]
    simp [hasBody.run hb]) h ht k

/-! ### Texts -/

/-- The byte at a place. -/
def byt (l : List UInt8) (j : Nat) : Int := ((l.getD j 0).toNat : Int)
theorem byt_range (l : List UInt8) (j : Nat) : 0 ≤ byt l j ∧ byt l j ≤ 255 := by
  unfold byt
  have := (l.getD j 0).toNat_lt
  omega

theorem size_S (l : List UInt8) : (⟨l.toArray⟩ : ByteArray).size = l.length := by show l.toArray.size = _; simp

theorem XL.ixT {t : TypeId} {x i : Operand} {s : List UInt8} {kd : IntKind} {n : Int} (j : Nat) (ht : P.underlying t = some .string) (hx : ev L x = some (S s)) (hi : ev L i = some (.int kd n)) (hn : n = (j : Int)) (hj : j < s.length)
    (hc : chk ops L N d g = true) (k : XL P N ops Q l ((d, .int .u8 (byt s j)) :: L) cs) : XL P N ops Q (⟨some d, .index t x i, ty, pos, af, g⟩ :: l) L cs :=
  XL.stepP rfl hc (fun a w hm => by
    subst hn
    simp only [execOp, hm.eval hx, hm.eval hi, Instr.index, Sem.run_bind, asIntOf, Sem.run_pure, Result.andThen_ok, run_underlying ht]
    have h0 : (0 : Int) ≤ (j : Int) := by omega
    have hsz := size_S s
    have hg : (⟨s.toArray⟩ : ByteArray)[j]? = some (s.getD j 0) := by
      rw [getElem?_pos _ j (by rw [hsz]; exact hj)]
      show some (s.toArray[j]'(by simpa using hj)) = _
      simp [List.getD, hj]
    rw [if_pos h0]
    simp only [Int.toNat_natCast, hg, Sem.run_pure, Result.andThen_ok, byt]) k

theorem XL.lenT {t : TypeId} {x : Operand} {s : List UInt8} (ht : P.underlying t = some .string) (hx : ev L x = some (S s))
    (hc : chk ops L N d g = true) (k : XL P N ops Q l ((d, .int .i64 (s.length : Int)) :: L) cs) : XL P N ops Q (⟨some d, .call ⟨.builtin .len, #[x], #[t]⟩, ty, pos, af, g⟩ :: l) L cs :=
  XL.stepP rfl hc (fun a w hm => by
    simp [execOp, resolve, invoke, builtin, Builtin.len_, hm.eval hx, run_underlying ht, goInt, size_S]) k

theorem extract_S (s : List UInt8) (lo hi : Nat) : (⟨s.toArray⟩ : ByteArray).extract lo hi = ⟨((s.take hi).drop lo).toArray⟩ := by
  apply ByteArray.ext
  simp [List.drop_take]

/-- 's[lo:hi]'. -/
theorem XL.slT {t : TypeId} {x : Operand} {lo hi : Option Operand} {s : List UInt8} (a b : Nat) (ht : P.underlying t = some .string) (hx : ev L x = some (S s))
    (hlo : match lo with | none => a = 0 | some y => ∃ kd, ev L y = some (.int kd (a : Int))) (hhi : match hi with | none => b = s.length | some y => ∃ kd, ev L y = some (.int kd (b : Int)))
    (hab : a ≤ b) (hb : b ≤ s.length) (hc : chk ops L N d g = true) (k : XL P N ops Q l ((d, S ((s.take b).drop a)) :: L) cs) :
    XL P N ops Q (⟨some d, .slice t x lo hi none, ty, pos, af, g⟩ :: l) L cs :=
  XL.stepP rfl hc (fun ac w hm => by
    have hsz := size_S s
    have hB : ∀ (kd : IntKind) (n y : Nat) (code : BoundsCode), n ≤ y → (Instr.sliceBound (.int kd (n : Int)) y code).run P w = .ok n w := by
      intro kd n y code h
      simp [Instr.sliceBound, asIntOf, h]
    have hbd : (Instr.sliceBounds false s.length s.length (lo.map ac.eval) (hi.map ac.eval) none).run P w = .ok (a, b, s.length) w := by
      cases lo with
      | none =>
        cases hi with
        | none => simp only at hlo hhi; subst hlo; subst hhi; simp [Instr.sliceBounds]
        | some y =>
          simp only at hlo hhi; subst hlo
          obtain ⟨kd, hk⟩ := hhi
          simp [Instr.sliceBounds, hm.eval hk, hB kd b s.length .sliceAlen hb]
      | some z =>
        obtain ⟨kz, hz⟩ := hlo
        cases hi with
        | none => simp only at hhi; subst hhi; simp [Instr.sliceBounds, hm.eval hz, hB kz a s.length .sliceB hab]
        | some y =>
          obtain ⟨kd, hk⟩ := hhi
          simp [Instr.sliceBounds, hm.eval hk, hm.eval hz, hB kd b s.length .sliceAlen hb, hB kz a b .sliceB hab]
    simp only [execOp, hm.eval hx, Instr.sliceAt, Sem.run_bind, run_underlying ht, Result.andThen_ok, Instr.slice, Option.map_none, Option.isSome_none, Bool.false_eq_true, if_false, Sem.run_pure, hsz, hbd, extract_S]) k

/-! ### Conversions of numbers -/

theorem XL.cvI {src dst : TypeId} {x : Operand} {k0 k1 : IntKind} {n m : Int} {ds : TypeDesc} (hs : P.underlying src = some ds) (hd : P.underlying dst = some (.int k1)) (hx : ev L x = some (.int k0 n)) (hm' : k1.wrap n = m)
    (hc : chk ops L N d g = true) (k : XL P N ops Q l ((d, .int k1 m) :: L) cs) : XL P N ops Q (⟨some d, .convert src dst x, ty, pos, af, g⟩ :: l) L cs :=
  XL.stepP rfl hc (fun a w hm => by
    simp [execOp, hm.eval hx, convert, run_underlying hs, run_underlying hd, Conv.intToInt, hm']) k

theorem XL.notB {t : TypeId} {x : Operand} {p : Prop} [Decidable p] (hx : ev L x = some (.bool (decide p))) (hc : chk ops L N d g = true) (k : XL P N ops Q l ((d, .bool (decide (¬ p))) :: L) cs) :
    XL P N ops Q (⟨some d, .unOp .not t x, ty, pos, af, g⟩ :: l) L cs :=
  XL.stepP rfl hc (fun a w hm => by
    simp [execOp, hm.eval hx, Op.unary]) k
theorem XL.notT {t : TypeId} {x : Operand} {b : Bool} (hx : ev L x = some (.bool b)) (hc : chk ops L N d g = true) (k : XL P N ops Q l ((d, .bool (!b)) :: L) cs) :
    XL P N ops Q (⟨some d, .unOp .not t x, ty, pos, af, g⟩ :: l) L cs :=
  XL.stepP rfl hc (fun a w hm => by
    simp [execOp, hm.eval hx, Op.unary]) k
end
end Go.Sx

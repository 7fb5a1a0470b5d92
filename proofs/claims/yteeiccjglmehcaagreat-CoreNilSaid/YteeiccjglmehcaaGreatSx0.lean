/-
  The calculus Sx, part 0: chunks of memory, what it means that a world holds a list of them, frames as association lists, the judgements on code.
  Plain definitions and theorems over any program.
-/
import Derived.WalkKit
import Derived.ProofKit
import Derived.Orders
import Derived.Deep.Quiet
namespace Go.Sx
open Go

/-! ### Chunks -/

structure SameOut (w w' : World) : Prop where
  os : w'.os = w.os
  tape : w'.tape = w.tape
  output : w'.output = w.output

theorem SameOut.refl (w : World) : SameOut w w := ⟨rfl, rfl, rfl⟩
theorem SameOut.trans {a b c : World} (h : SameOut a b) (k : SameOut b c) : SameOut a c :=
  ⟨k.os.trans h.os, k.tape.trans h.tape, k.output.trans h.output⟩

/-- What is said of a part of memory: 'D' the blocks that it may speak of. -/
structure Chunk where
  holds : World → (Nat → Prop) → Prop
  loc : ∀ w w' D, SameOut w w' → (∀ b, D b → w'.heap[b]? = w.heap[b]?) → holds w D → holds w' D

def SatD : List Chunk → World → (Nat → Prop) → Prop
  | [], _, _ => True
  | c :: cs, w, D => ∃ D1 D2 : Nat → Prop, (∀ b, D1 b → D b) ∧ (∀ b, D2 b → D b) ∧ (∀ b, D1 b → D2 b → False) ∧ c.holds w D1 ∧ SatD cs w D2

theorem SatD.mono {cs : List Chunk} {w : World} {D D' : Nat → Prop} (hd : ∀ b, D b → D' b) (h : SatD cs w D) : SatD cs w D' := by
  cases cs with
  | nil => trivial
  | cons c cs =>
    obtain ⟨D1, D2, h1, h2, h3, h4, h5⟩ := h
    exact ⟨D1, D2, fun b x => hd b (h1 b x), fun b x => hd b (h2 b x), h3, h4, h5⟩

theorem SatD.loc {cs : List Chunk} {w w' : World} (ho : SameOut w w') : ∀ {D : Nat → Prop}, (∀ b, D b → w'.heap[b]? = w.heap[b]?) → SatD cs w D → SatD cs w' D := by
  induction cs with
  | nil => intros; trivial
  | cons c cs ih =>
    intro D hb h
    obtain ⟨D1, D2, h1, h2, h3, h4, h5⟩ := h
    exact ⟨D1, D2, h1, h2, h3, c.loc w w' D1 ho (fun b x => hb b (h1 b x)) h4, ih (fun b x => hb b (h2 b x)) h5⟩

theorem SatD.perm {xs ys : List Chunk} (hp : xs.Perm ys) : ∀ {w : World} {D : Nat → Prop}, SatD xs w D → SatD ys w D := by
  induction hp with
  | nil => exact fun h => h
  | cons c hp ih =>
    intro w D h
    obtain ⟨D1, D2, h1, h2, h3, h4, h5⟩ := h
    exact ⟨D1, D2, h1, h2, h3, h4, ih h5⟩
  | swap c d l =>
    intro w D h
    obtain ⟨D1, D2, h1, h2, h3, h4, E1, E2, e1, e2, e3, e4, e5⟩ := h
    refine ⟨E1, fun b => D1 b ∨ E2 b, fun b x => h2 b (e1 b x), fun b x => x.elim (h1 b) (fun y => h2 b (e2 b y)), fun b x y => y.elim (fun z => h3 b z (e1 b x)) (e3 b x), e4,
      D1, E2, fun b x => .inl x, fun b x => .inr x, fun b x y => h3 b x (e2 b y), h4, e5⟩
  | trans _ _ ih1 ih2 => exact fun h => ih2 (ih1 h)

theorem SatD.append {xs ys : List Chunk} {w : World} {D : Nat → Prop} : SatD (xs ++ ys) w D ↔
    ∃ D1 D2 : Nat → Prop, (∀ b, D1 b → D b) ∧ (∀ b, D2 b → D b) ∧ (∀ b, D1 b → D2 b → False) ∧ SatD xs w D1 ∧ SatD ys w D2 := by
  induction xs generalizing D with
  | nil =>
    constructor
    · intro h; exact ⟨fun _ => False, D, fun b x => x.elim, fun b x => x, fun b x _ => x.elim, trivial, h⟩
    · rintro ⟨D1, D2, h1, h2, h3, h4, h5⟩; exact SatD.mono h2 h5
  | cons c xs ih =>
    constructor
    · rintro ⟨D1, D2, h1, h2, h3, h4, h5⟩
      obtain ⟨E1, E2, e1, e2, e3, e4, e5⟩ := ih.1 h5
      exact ⟨fun b => D1 b ∨ E1 b, E2, fun b x => x.elim (h1 b) (fun y => h2 b (e1 b y)), fun b x => h2 b (e2 b x), fun b x y => x.elim (fun z => h3 b z (e2 b y)) (fun z => e3 b z y),
        ⟨D1, E1, fun b x => .inl x, fun b x => .inr x, fun b x y => h3 b x (e1 b y), h4, e4⟩, e5⟩
    · rintro ⟨D1, D2, h1, h2, h3, ⟨E1, E2, e1, e2, e3, e4, e5⟩, h5⟩
      exact ⟨E1, fun b => E2 b ∨ D2 b, fun b x => h1 b (e1 b x), fun b x => x.elim (fun y => h1 b (e2 b y)) (h2 b), fun b x y => y.elim (e3 b x) (h3 b (e1 b x)), e4,
        ih.2 ⟨E2, D2, fun b x => .inl x, fun b x => .inr x, fun b x y => h3 b (e2 b x) y, e5, h5⟩⟩

def Sat (cs : List Chunk) (w : World) : Prop := SatD cs w (fun b => b < w.heap.size)

theorem Sat.perm {xs ys : List Chunk} {w : World} (hp : xs.Perm ys) (h : Sat xs w) : Sat ys w := SatD.perm hp h
theorem Sat.left {xs ys : List Chunk} {w : World} (h : Sat (xs ++ ys) w) : Sat xs w :=
  let ⟨_, _, h1, _, _, h4, _⟩ := SatD.append.1 h; SatD.mono h1 h4
theorem Sat.right {xs ys : List Chunk} {w : World} (h : Sat (xs ++ ys) w) : Sat ys w :=
  let ⟨_, _, _, h2, _, _, h5⟩ := SatD.append.1 h; SatD.mono h2 h5
theorem Sat.tail {c : Chunk} {cs : List Chunk} {w : World} (h : Sat (c :: cs) w) : Sat cs w := Sat.right (xs := [c]) h

/-- Several chunks as one. -/
def star (cs : List Chunk) : Chunk where
  holds w D := SatD cs w D
  loc _ _ _ ho hb h := SatD.loc ho hb h

/-- Chunks over something hidden. -/
def exi {α : Type} (f : α → List Chunk) : Chunk where
  holds w D := ∃ x, SatD (f x) w D
  loc _ _ _ ho hb := fun ⟨x, h⟩ => ⟨x, SatD.loc ho hb h⟩

/-- A block known whole. -/
def cell (b : Nat) (o : Obj) : Chunk where
  holds w D := D b ∧ w.heap[b]? = some o
  loc _ _ _ _ hb h := ⟨h.1, by rw [hb b h.1]; exact h.2⟩

/-- Nothing but a fact. -/
def pur (p : Prop) : Chunk where
  holds _ _ := p
  loc _ _ _ _ _ h := h

/-- All that there was in a world, as it was. -/
def old (w0 : World) : Chunk where
  holds w D := (∀ b, b < w0.heap.size → D b) ∧ SameOut w0 w ∧ ∀ b, b < w0.heap.size → w.heap[b]? = w0.heap[b]?
  loc _ _ _ ho hb h := ⟨h.1, h.2.1.trans ho, fun b hd => (hb b (h.1 b hd)).trans (h.2.2 b hd)⟩

theorem SatD.one {c : Chunk} {w : World} {D : Nat → Prop} : SatD [c] w D ↔ ∃ D1 : Nat → Prop, (∀ b, D1 b → D b) ∧ c.holds w D1 :=
  ⟨fun ⟨D1, _, h1, _, _, h4, _⟩ => ⟨D1, h1, h4⟩, fun ⟨D1, h1, h4⟩ => ⟨D1, fun _ => False, h1, fun _ x => x.elim, fun _ _ x => x.elim, h4, trivial⟩⟩

theorem Sat.fold {xs ys : List Chunk} {w : World} (h : Sat (xs ++ ys) w) : Sat (xs ++ [star ys]) w := by
  obtain ⟨D1, D2, h1, h2, h3, h4, h5⟩ := SatD.append.1 h
  exact SatD.append.2 ⟨D1, D2, h1, h2, h3, h4, SatD.one.2 ⟨D2, fun _ x => x, h5⟩⟩

theorem Sat.unfold {xs ys : List Chunk} {w : World} (h : Sat (xs ++ [star ys]) w) : Sat (xs ++ ys) w := by
  obtain ⟨D1, D2, h1, h2, h3, h4, h5⟩ := SatD.append.1 h
  obtain ⟨E, e1, e2⟩ := SatD.one.1 h5
  exact SatD.append.2 ⟨D1, D2, h1, h2, h3, h4, SatD.mono e1 e2⟩

/-- What stands first may be turned into other chunks that follow from it where it stands. -/
theorem Sat.imp {c : Chunk} {xs ys : List Chunk} {w : World} (hc : ∀ D, c.holds w D → SatD xs w D) (h : Sat (c :: ys) w) : Sat (xs ++ ys) w := by
  obtain ⟨D1, D2, h1, h2, h3, h4, h5⟩ := h
  exact SatD.append.2 ⟨D1, D2, h1, h2, h3, hc D1 h4, h5⟩
theorem Sat.opens {α : Type} {f : α → List Chunk} {ys : List Chunk} {w : World} (h : Sat (exi f :: ys) w) : ∃ x, Sat (f x ++ ys) w := by
  obtain ⟨D1, D2, h1, h2, h3, ⟨x, h4⟩, h5⟩ := h
  exact ⟨x, SatD.append.2 ⟨D1, D2, h1, h2, h3, h4, h5⟩⟩
theorem Sat.shut {α : Type} {f : α → List Chunk} {ys : List Chunk} {w : World} (x : α) (h : Sat (f x ++ ys) w) : Sat (exi f :: ys) w := by
  obtain ⟨D1, D2, h1, h2, h3, h4, h5⟩ := SatD.append.1 h
  exact ⟨D1, D2, h1, h2, h3, ⟨x, h4⟩, h5⟩
theorem Sat.fact {p : Prop} {ys : List Chunk} {w : World} (h : Sat (pur p :: ys) w) : p := by
  obtain ⟨D1, D2, h1, h2, h3, h4, h5⟩ := h
  exact h4
theorem Sat.pure {p : Prop} {ys : List Chunk} {w : World} (hp : p) (h : Sat ys w) : Sat (pur p :: ys) w :=
  ⟨fun _ => False, fun b => b < w.heap.size, fun _ x => x.elim, fun _ x => x, fun _ x _ => x.elim, hp, h⟩

theorem Sat.cell {b : Nat} {o : Obj} {ys : List Chunk} {w : World} (h : Sat (Sx.cell b o :: ys) w) : b < w.heap.size ∧ w.heap[b]? = some o := by
  obtain ⟨D1, D2, h1, h2, h3, h4, h5⟩ := h
  exact ⟨h1 b h4.1, h4.2⟩

/-- THE WORLD TURNS: where 'c' spoke, and in new blocks; 'c'' holds there. -/
theorem Sat.upd {c c' : Chunk} {ys : List Chunk} {w w' : World} (h : Sat (c :: ys) w) (ho : SameOut w w') (hsz : w.heap.size ≤ w'.heap.size)
    (hu : ∀ D, c.holds w D → (∀ b, D b → b < w.heap.size) → (∀ b, b < w.heap.size → ¬ D b → w'.heap[b]? = w.heap[b]?) ∧
      ∃ D' : Nat → Prop, (∀ b, D' b → b < w'.heap.size ∧ (D b ∨ w.heap.size ≤ b)) ∧ c'.holds w' D') : Sat (c' :: ys) w' := by
  obtain ⟨D1, D2, h1, h2, h3, h4, h5⟩ := h
  obtain ⟨k1, D', k2, k3⟩ := hu D1 h4 h1
  refine ⟨D', D2, fun b x => (k2 b x).1, fun b x => Nat.lt_of_lt_of_le (h2 b x) hsz, fun b x y => ?_, k3, SatD.loc ho (fun b x => k1 b (h2 b x) (fun z => h3 b z x)) h5⟩
  rcases (k2 b x).2 with z | z
  · exact h3 b z y
  · exact absurd (h2 b y) (Nat.not_lt.2 z)

/-- Nothing in memory turns (an order is drawn, say). -/
theorem Sat.same {ys : List Chunk} {w w' : World} (h : Sat ys w) (ho : SameOut w w') (hh : w'.heap = w.heap) : Sat ys w' := by
  unfold Sat at *
  rw [hh]
  exact SatD.loc ho (fun b _ => by rw [hh]) h

theorem Sat.drew {ys : List Chunk} {w : World} (h : Sat ys w) : Sat ys { w with drawn := w.drawn + 1 } := h.same ⟨rfl, rfl, rfl⟩ rfl

/-- A new block. -/
theorem Sat.new {ys : List Chunk} {w : World} (o : Obj) (h : Sat ys w) : Sat (Sx.cell w.heap.size o :: ys) (w.alloc o) := by
  refine ⟨fun b => b = w.heap.size, fun b => b < w.heap.size, fun b x => by subst x; simp, fun b x => by simp; omega, fun b x y => by omega, ⟨rfl, heap_alloc_new w o⟩,
    SatD.loc (w := w) (w' := w.alloc o) ⟨rfl, rfl, rfl⟩ (fun b (x : b < w.heap.size) => by show (w.heap.push o)[b]? = _; rw [Array.getElem?_push, if_neg (by omega)]) h⟩

/-- A block turned. -/
theorem Sat.set {b : Nat} {o o' : Obj} {ys : List Chunk} {w w' : World} (h : Sat (Sx.cell b o :: ys) w) (ho : SameOut w w') (hsz : w'.heap.size = w.heap.size)
    (hb : w'.heap[b]? = some o') (hk : ∀ k, k ≠ b → w'.heap[k]? = w.heap[k]?) : Sat (Sx.cell b o' :: ys) w' :=
  h.upd ho (by omega) fun D hD hl => ⟨fun k _ hn => hk k (fun e => hn (e ▸ hD.1)), fun k => k = b, fun k x => by subst x; exact ⟨hsz ▸ hl k hD.1, .inl hD.1⟩, rfl, hb⟩

/-! ### Picking chunks out of a list -/

/-- 'cs' is 'c' and 'r', in some order. -/
def Take1 (cs : List Chunk) (c : Chunk) (r : List Chunk) : Prop := cs.Perm (c :: r)

theorem t0 {c : Chunk} {r : List Chunk} : Take1 (c :: r) c r := .refl _
theorem tS {c d : Chunk} {r r' : List Chunk} (h : Take1 r c r') : Take1 (d :: r) c (d :: r') := (List.Perm.cons d h).trans (.swap ..)
theorem t1 {a c : Chunk} {r : List Chunk} : Take1 (a :: c :: r) c (a :: r) := tS t0
theorem t2 {a b c : Chunk} {r : List Chunk} : Take1 (a :: b :: c :: r) c (a :: b :: r) := tS t1
theorem t3 {a b d c : Chunk} {r : List Chunk} : Take1 (a :: b :: d :: c :: r) c (a :: b :: d :: r) := tS t2
theorem t4 {a b d e c : Chunk} {r : List Chunk} : Take1 (a :: b :: d :: e :: c :: r) c (a :: b :: d :: e :: r) := tS t3
theorem t5 {a b d e f c : Chunk} {r : List Chunk} : Take1 (a :: b :: d :: e :: f :: c :: r) c (a :: b :: d :: e :: f :: r) := tS t4
theorem t6 {a b d e f g c : Chunk} {r : List Chunk} : Take1 (a :: b :: d :: e :: f :: g :: c :: r) c (a :: b :: d :: e :: f :: g :: r) := tS t5
theorem t7 {a b d e f g h c : Chunk} {r : List Chunk} : Take1 (a :: b :: d :: e :: f :: g :: h :: c :: r) c (a :: b :: d :: e :: f :: g :: h :: r) := tS t6

/-- 'cs' is 'need' and 'r', in some order. -/
def Take (cs need r : List Chunk) : Prop := cs.Perm (need ++ r)

theorem tn {r : List Chunk} : Take r [] r := .refl _
theorem Take1.c {cs r r' need : List Chunk} {c : Chunk} (h : Take1 cs c r) (k : Take r need r') : Take cs (c :: need) r' :=
  h.trans (List.Perm.cons c k)
theorem tall {cs : List Chunk} : Take cs cs [] := by simp [Take]

theorem Take.sat {cs need r : List Chunk} {w : World} (h : Take cs need r) (hs : Sat cs w) : Sat need w := (hs.perm h).left

/-- One of the chunks in a list is a block known whole. -/
class At (cs : List Chunk) (b : Nat) (o : outParam Obj) : Prop where
  mem : ∃ r, Take1 cs (cell b o) r
instance atS {c : Chunk} {cs : List Chunk} {b : Nat} {o : Obj} [h : At cs b o] : At (c :: cs) b o := ⟨let ⟨_, k⟩ := h.mem; ⟨_, tS k⟩⟩
instance at0 {cs : List Chunk} {b : Nat} {o : Obj} : At (cell b o :: cs) b o := ⟨⟨_, t0⟩⟩
theorem At.get {cs : List Chunk} {b : Nat} {o : Obj} [h : At cs b o] {w : World} (hs : Sat cs w) : b < w.heap.size ∧ w.heap[b]? = some o :=
  let ⟨_, k⟩ := h.mem; Sat.cell (hs.perm k)

/-- 'cs'' is 'cs' with block 'b', which held 'o', now holding 'o''. -/
class Upd (cs : List Chunk) (b : Nat) (o : outParam Obj) (o' : Obj) (cs' : outParam (List Chunk)) : Prop where
  mem : ∃ r, Take1 cs (cell b o) r ∧ Take1 cs' (cell b o') r
instance updS {c : Chunk} {cs cs' : List Chunk} {b : Nat} {o o' : Obj} [h : Upd cs b o o' cs'] : Upd (c :: cs) b o o' (c :: cs') := ⟨let ⟨_, k, k'⟩ := h.mem; ⟨_, tS k, tS k'⟩⟩
instance upd0 {cs : List Chunk} {b : Nat} {o o' : Obj} : Upd (cell b o :: cs) b o o' (cell b o' :: cs) := ⟨⟨_, t0, t0⟩⟩
theorem Upd.set {cs cs' : List Chunk} {b : Nat} {o o' : Obj} (h : Upd cs b o o' cs') {w w' : World} (hs : Sat cs w) (ho : SameOut w w') (hsz : w'.heap.size = w.heap.size)
    (hb : w'.heap[b]? = some o') (hk : ∀ k, k ≠ b → w'.heap[k]? = w.heap[k]?) : Sat cs' w' :=
  let ⟨_, k, k'⟩ := h.mem; (Sat.set (hs.perm k) ho hsz hb hk).perm k'.symm
theorem Upd.get {cs cs' : List Chunk} {b : Nat} {o o' : Obj} (h : Upd cs b o o' cs') {w : World} (hs : Sat cs w) : b < w.heap.size ∧ w.heap[b]? = some o :=
  let ⟨_, k, _⟩ := h.mem; Sat.cell (hs.perm k)

/-! ### Frames -/

def lk : List (Nat × Value) → Nat → Option Value
  | [], _ => none
  | (j, v) :: L, k => cond (Nat.beq j k) (some v) (lk L k)

def Mat (N : Nat) (L : List (Nat × Value)) (a : Act) : Prop :=
  a.tmps.size = N ∧ a.defers = [] ∧ ∀ k v, lk L k = some v → a.tmps[k]? = some v

def ev (L : List (Nat × Value)) : Operand → Option Value
  | .tmp t => lk L t
  | .const v => some v
  | .global g => some (.pointer (some ⟨g, 0, none⟩))
  | .func f => some (.func (.func f) #[] #[])

theorem Mat.eval {N : Nat} {L : List (Nat × Value)} {a : Act} (h : Mat N L a) {x : Operand} {v : Value} (hx : ev L x = some v) : a.eval x = v := by
  cases x with
  | tmp t =>
    have := h.2.2 t v hx
    simp [Act.eval, Array.getD_eq_getD_getElem?, this]
  | const u => simpa [ev, Act.eval] using hx
  | global g => simpa [ev, Act.eval] using hx
  | func f => simpa [ev, Act.eval] using hx

theorem Mat.put {N : Nat} {L : List (Nat × Value)} {a : Act} (h : Mat N L a) {d : Nat} (hd : d < N) (v : Value) : Mat N ((d, v) :: L) (a.put (some d) v) := by
  refine ⟨by simp [Act.put, h.1], by simp [Act.put, h.2.1], fun k u hk => ?_⟩
  simp only [lk] at hk
  by_cases e : d = k
  · subst e
    simp at hk
    subst hk
    simp [Act.put, h.1, hd]
  · have : Nat.beq d k = false := by
      rw [Bool.eq_false_iff]; intro hb; exact e (Nat.eq_of_beq_eq_true hb)
    rw [this] at hk
    have := h.2.2 k u hk
    simp [Act.put, e, this]

/-- The frame's list cut down. -/
def Sub : List (Nat × Value) → List (Nat × Value) → Prop
  | [], _ => True
  | (j, v) :: L', L => lk L j = some v ∧ Sub L' L

theorem Sub.spec {L' L : List (Nat × Value)} (h : Sub L' L) : ∀ k v, lk L' k = some v → lk L k = some v := by
  induction L' with
  | nil => intro k v hk; simp [lk] at hk
  | cons x L' ih =>
    obtain ⟨j, u⟩ := x
    intro k v hk
    simp only [lk] at hk
    cases hb : Nat.beq j k with
    | true =>
      rw [hb] at hk
      obtain rfl : u = v := by simpa using hk
      rw [← Nat.eq_of_beq_eq_true hb]
      exact h.1
    | false =>
      rw [hb] at hk
      exact ih h.2 k v hk

theorem Mat.sub {N : Nat} {L L' : List (Nat × Value)} {a : Act} (h : Mat N L a) (hs : Sub L' L) : Mat N L' a :=
  ⟨h.1, h.2.1, fun k v hk => h.2.2 k v (hs.spec k v hk)⟩

/-! ### Judgements -/

section
variable {P : Program} {N : Nat}

def XC (P : Program) (N : Nat) (Q : Exit → Act → World → Prop) (c : Code) (L : List (Nat × Value)) (cs : List Chunk) : Prop :=
  ∀ a w, Mat N L a → Sat cs w → c.wp P Q a w

def XL (P : Program) (N : Nat) (ops : Array Oper) (Q : Exit → Act → World → Prop) (l : List Oper) (L : List (Nat × Value)) (cs : List Chunk) : Prop :=
  ∀ a w, Mat N L a → Sat cs w → wpList P ops Q l a w

def XQ (N : Nat) (Q : Exit → Act → World → Prop) (e : Exit) (L : List (Nat × Value)) (cs : List Chunk) : Prop :=
  ∀ a w, Mat N L a → Sat cs w → Q e a w

variable {Q : Exit → Act → World → Prop} {L L' : List (Nat × Value)} {cs cs' r : List Chunk} {ops : Array Oper} {l : List Oper} {x y : Code}

theorem XC.seq (h : XC P N (Exit.then (y.wp P Q) Q) x L cs) : XC P N Q (.seq x y) L cs :=
  fun a w hm hs => wp_seq (h a w hm hs)
theorem XC.block {id : Nat} (h : XC P N (Exit.inBlock id Q) x L cs) : XC P N Q (.block id x) L cs :=
  fun a w hm hs => wp_block (h a w hm hs)
theorem XC.reg {id : Nat} {l : List Oper} (h : XL P N l.toArray Q l L cs) : XC P N Q (.region id l.toArray false) L cs :=
  fun a w hm hs => wp_region_lit (h a w hm hs)
theorem XL.nil (h : XQ N Q .normal L cs) : XL P N ops Q [] L cs := fun a w hm hs => wpList_nil (h a w hm hs)
theorem XC.skip (h : XQ N Q .normal L cs) : XC P N Q .skip L cs := fun a w hm hs => wp_skip (h a w hm hs)
theorem XC.ret (h : XQ N Q .ret L cs) : XC P N Q .ret L cs := fun a w hm hs => wp_ret (h a w hm hs)
theorem XC.exit {id : Nat} (h : XQ N Q (.exit id) L cs) : XC P N Q (.exit id) L cs := fun a w hm hs => wp_exit (h a w hm hs)

theorem XC.condT {c : Operand} (hc : ev L c = some (.bool true)) (h : XC P N Q x L cs) : XC P N Q (.cond c x y) L cs :=
  fun a w hm hs => wp_cond_true (hm.eval hc) (h a w hm hs)
theorem XC.condF {c : Operand} (hc : ev L c = some (.bool false)) (h : XC P N Q y L cs) : XC P N Q (.cond c x y) L cs :=
  fun a w hm hs => wp_cond_false (hm.eval hc) (h a w hm hs)
theorem XC.cond {c : Operand} {p : Prop} [Decidable p] (hc : ev L c = some (.bool (decide p))) (h : p → XC P N Q x L cs) (k : ¬ p → XC P N Q y L cs) : XC P N Q (.cond c x y) L cs := by
  intro a w hm hs
  by_cases hp : p
  · exact wp_cond_true (by rw [hm.eval hc, decide_eq_true hp]) (h hp a w hm hs)
  · exact wp_cond_false (by rw [hm.eval hc, decide_eq_false hp]) (k hp a w hm hs)
theorem XC.condB {c : Operand} {b : Bool} (hc : ev L c = some (.bool b)) (h : b = true → XC P N Q x L cs) (k : b = false → XC P N Q y L cs) : XC P N Q (.cond c x y) L cs := by
  intro a w hm hs
  cases b with
  | true => exact wp_cond_true (hm.eval hc) (h rfl a w hm hs)
  | false => exact wp_cond_false (hm.eval hc) (k rfl a w hm hs)

/-- A test whose outcome is known otherwise. -/
theorem XC.condT' {c : Operand} {b : Bool} (hc : ev L c = some (.bool b)) (hb : b = true) (h : XC P N Q x L cs) : XC P N Q (.cond c x y) L cs := XC.condT (by rw [hc, hb]) h
theorem XC.condF' {c : Operand} {b : Bool} (hc : ev L c = some (.bool b)) (hb : b = false) (h : XC P N Q y L cs) : XC P N Q (.cond c x y) L cs := XC.condF (by rw [hc, hb]) h

theorem XC.keep (hs : Sub L' L) (h : XC P N Q x L' cs) : XC P N Q x L cs := fun a w hm hw => h a w (hm.sub hs) hw
theorem XL.keep (hs : Sub L' L) (h : XL P N ops Q l L' cs) : XL P N ops Q l L cs := fun a w hm hw => h a w (hm.sub hs) hw
theorem XC.have {φ : Prop} (hf : ∀ w, Sat cs w → φ) (h : φ → XC P N Q x L cs) : XC P N Q x L cs := fun a w hm hs => h (hf w hs) a w hm hs
theorem XL.have {φ : Prop} (hf : ∀ w, Sat cs w → φ) (h : φ → XL P N ops Q l L cs) : XL P N ops Q l L cs := fun a w hm hs => h (hf w hs) a w hm hs
/-- The chunks in another order, some of them forgotten, or turned into others that follow from them. -/
theorem XC.to (hp : ∀ w, Sat cs w → Sat cs' w) (h : XC P N Q x L cs') : XC P N Q x L cs := fun a w hm hs => h a w hm (hp w hs)
theorem XL.to (hp : ∀ w, Sat cs w → Sat cs' w) (h : XL P N ops Q l L cs') : XL P N ops Q l L cs := fun a w hm hs => h a w hm (hp w hs)
theorem XC.open {α : Type} {f : α → List Chunk} (hp : ∀ w, Sat cs w → ∃ x, Sat (f x) w) (h : ∀ z, XC P N Q x L (f z)) : XC P N Q x L cs :=
  fun a w hm hs => let ⟨z, hz⟩ := hp w hs; h z a w hm hz
theorem XL.open {α : Type} {f : α → List Chunk} (hp : ∀ w, Sat cs w → ∃ x, Sat (f x) w) (h : ∀ z, XL P N ops Q l L (f z)) : XL P N ops Q l L cs :=
  fun a w hm hs => let ⟨z, hz⟩ := hp w hs; h z a w hm hz

theorem XQ.thenN (h : XC P N Q y L cs) : XQ N (Exit.then (y.wp P Q) Q) .normal L cs := h
theorem XQ.thenR {K : Act → World → Prop} (h : XQ N Q .ret L cs) : XQ N (Exit.then K Q) .ret L cs := h
theorem XQ.thenE {K : Act → World → Prop} {id : Nat} (h : XQ N Q (.exit id) L cs) : XQ N (Exit.then K Q) (.exit id) L cs := h
theorem XQ.blkN {id : Nat} (h : XQ N Q .normal L cs) : XQ N (Exit.inBlock id Q) .normal L cs := h
theorem XQ.blkR {id : Nat} (h : XQ N Q .ret L cs) : XQ N (Exit.inBlock id Q) .ret L cs := h
theorem XQ.blkE {id : Nat} (h : XQ N Q .normal L cs) : XQ N (Exit.inBlock id Q) (.exit id) L cs := by
  intro a w hm hs; simp only [Exit.inBlock, if_true]; exact h a w hm hs
theorem XQ.blkX {id id' : Nat} (hne : Nat.beq id' id = false) (h : XQ N Q (.exit id') L cs) : XQ N (Exit.inBlock id Q) (.exit id') L cs := by
  intro a w hm hs
  have : id' ≠ id := fun e => by subst e; simp at hne
  simp only [Exit.inBlock, if_neg this]; exact h a w hm hs

/-- A loop: 'z' what it is about in a round. -/
def LoopQ {ι : Type} (N : Nat) (Lx : ι → List (Nat × Value)) (cx : ι → List Chunk) (φ : ι → Prop) (m : ι → Nat) (z : ι) : Act → World → Prop :=
  fun a w => ∃ z', φ z' ∧ m z' < m z ∧ Mat N (Lx z') a ∧ Sat (cx z') w

theorem XC.loop {ι : Type} (Lx : ι → List (Nat × Value)) (cx : ι → List Chunk) (φ : ι → Prop) (m : ι → Nat) (z0 : ι)
    (h0 : φ z0) (hL : Sub (Lx z0) L) (hc : ∀ w, Sat cs w → Sat (cx z0) w)
    (h : ∀ z, φ z → XC P N (Exit.then (LoopQ N Lx cx φ m z) Q) x (Lx z) (cx z)) : XC P N Q (.loop x) L cs := by
  intro a w hm hs
  have key : ∀ (n : Nat) (z : ι), m z < n → φ z → ∀ a w, Mat N (Lx z) a → Sat (cx z) w → Code.rounds P x Q n a w := by
    intro n
    induction n with
    | zero => intro z hz; omega
    | succ n ih =>
      intro z hz hφ a w hm hs
      rw [rounds_succ]
      refine wp_mono (h z hφ a w hm hs) ?_
      intro e a w hq
      cases e with
      | normal =>
        obtain ⟨z', h1, h2, h3, h4⟩ := hq
        exact ih z' (by omega) h1 a w h3 h4
      | _ => exact hq
  exact wp_loop_rounds _ (key _ z0 (Nat.lt_succ_self _) h0 a w (hm.sub hL) (hc w hs))

theorem Mat.re {N : Nat} {L : List (Nat × Value)} {a : Act} (h : Mat N L a) {s : Nat} {v u : Value} (hs : lk L s = some v) (e : v = u) : Mat N ((s, u) :: L) a := by
  subst e
  refine ⟨h.1, h.2.1, fun j x hj => ?_⟩
  simp only [lk] at hj
  cases he : Nat.beq s j with
  | true =>
    rw [he] at hj
    obtain rfl : v = x := by simpa using hj
    rw [← Nat.eq_of_beq_eq_true he]
    exact h.2.2 s _ hs
  | false => rw [he] at hj; exact h.2.2 j x hj
/-- A slot's value in other words. -/
theorem XC.re (s : Nat) {v u : Value} (hs : lk L s = some v) (e : v = u) (k : XC P N Q x ((s, u) :: L) cs) : XC P N Q x L cs := fun a w hm hw => k a w (hm.re hs e) hw

/-- A round is over. -/
theorem XQ.again {ι : Type} {Lx : ι → List (Nat × Value)} {cx : ι → List Chunk} {φ : ι → Prop} {m : ι → Nat} {z : ι} (z' : ι) (h1 : φ z') (h2 : m z' < m z) (hL : Sub (Lx z') L) (hc : ∀ w, Sat cs w → Sat (cx z') w) :
    XQ N (Exit.then (LoopQ N Lx cx φ m z) Q) .normal L cs := fun _ w hm hs => ⟨z', h1, h2, hm.sub hL, hc w hs⟩
end
end Go.Sx

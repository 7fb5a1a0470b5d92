/-
  The calculus Sx, part 7: statements that leave their order open. A plan names the operations in one order, those that turn memory marked; what does not turn memory may come at any time that its edges allow.
-/
import Derived.Test.YteeiccjglmehcaaGreatSx6
namespace Go.Sx
open Go

inductive Plan where
  | done
  | q (i : Nat) (k : Plan)
  | r (i : Nat) (k : Plan)
  | e (i : Nat) (k : Plan)
  | e2 (i : Nat) (k : Plan) (i' : Nat) (k' : Plan)

def direct (o : Oper) : List Nat := (o.after.toList.filter (Region.binds .any)).map (·.on)

def ancGo : List Oper → List (List Nat) → List (List Nat)
  | [], acc => acc
  | o :: r, acc => ancGo r (acc ++ [((direct o) ++ (direct o).flatMap fun j => (acc[j]?).getD []).eraseDups])
def ancOf (l : List Oper) : List (List Nat) := ancGo l []

/-- The ancestors' table is right. -/
def ancOk (l : List Oper) (anc : List (List Nat)) : Bool :=
  l.zipIdx.all fun (o, j) => (direct o).all (fun y => Nat.blt y j) &&
    (((anc[j]?).getD []).all fun x => (direct o).contains x || (direct o).any fun y => ((anc[y]?).getD []).contains x)

def ancs (anc : List (List Nat)) (j : Nat) : List Nat := (anc[j]?).getD []

def looks (ops : List Oper) (o : Oper) : List Nat :=
  (o.op.operands.toList.filterMap fun | .tmp t => some t | _ => none) ++
  (match o.guard with
   | some (g, _) => ((ops[g]?).bind (·.dst)).toList
   | none => [])

/-- The operations that a plan takes as quiet ones. -/
def Plan.qs : Plan → List Nat
  | .done => []
  | .q i k => i :: k.qs
  | .r _ k | .e _ k => k.qs
  | .e2 _ k _ k' => k.qs ++ k'.qs
/-- An operation that comes behind all others, and is none of the quiet ones: it may write a slot that is read here. -/
def late (l : List Oper) (anc : List (List Nat)) (qs : List Nat) (i : Nat) : Bool :=
  !qs.contains i && (List.range l.length).all fun k => k == i || (ancs anc i).contains k

/-- No slot is written twice; what reads a slot that is written here waits for the writer; no select. -/
def slotsOk (l : List Oper) (anc : List (List Nat)) (qs : List Nat) : Bool :=
  l.zipIdx.all fun (o, j) => (match o.op with | .select .. => false | _ => true) &&
    l.zipIdx.all fun (o', i) => match o'.dst with
      | some d => (i == j || o.dst != some d) && (!(looks l o).contains d || ((ancs anc j).contains i || late l anc qs i))
      | none => true

def planOk (l : List Oper) (anc : List (List Nat)) (qs : List Nat) : Plan → (A Pd todo : List Nat) → Bool
  | .done, A, _, todo => todo.isEmpty && (List.range l.length).all (A.contains ·)
  | .q i k, A, Pd, todo => todo.isEmpty && !A.contains i && qs.contains i && (match (l[i]?).bind (·.dst) with | some _ => true | none => false) && planOk l anc qs k (i :: A) (i :: Pd) []
  | .r i k, A, Pd, todo => todo.contains i && planOk l anc qs k A Pd (todo.filter (· != i))
  | .e i k, A, Pd, todo => todo.isEmpty && !A.contains i && (List.range l.length).all (fun j => A.contains j || j == i || (ancs anc j).contains i) &&
      planOk l anc qs k (i :: A) (Pd.filter fun j => !(ancs anc i).contains j) (Pd.filter fun j => !(ancs anc i).contains j)
  | .e2 i k i' k', A, Pd, todo => todo.isEmpty && !A.contains i && !A.contains i' && (List.range l.length).all (fun j => A.contains j || j == i || j == i' || (ancs anc j).contains i || (ancs anc j).contains i') &&
      planOk l anc qs k (i :: A) (Pd.filter fun j => !(ancs anc i).contains j) (Pd.filter fun j => !(ancs anc i).contains j) &&
      planOk l anc qs k' (i' :: A) (Pd.filter fun j => !(ancs anc i').contains j) (Pd.filter fun j => !(ancs anc i').contains j)

/-- All that is asked of a region and a plan. -/
def regOk (l : List Oper) (p : Plan) : Bool := ancOk l (ancOf l) && slotsOk l (ancOf l) p.qs && planOk l (ancOf l) p.qs p [] [] []

/-- What a quiet operation comes to. -/
def Qd (d : Nat) (v : Value) (cs : List Chunk) : Exit → Act → World → Prop := fun e a w => e = .normal ∧ a.defers = [] ∧ a.tmps[d]? = some v ∧ Sat cs w

def Ext (o : Oper) (L L' : List (Nat × Value)) : Prop := match o.dst with
  | some d => ∃ v, L' = (d, v) :: L
  | none => L' = L

/-- What an operation that turns memory comes to. -/
def Ed (o : Oper) (L : List (Nat × Value)) (J : List (Nat × Value) → List Chunk → Prop) (N : Nat) : Exit → Act → World → Prop :=
  fun e a w => e = .normal ∧ ∃ L' cs', Ext o L L' ∧ J L' cs' ∧ Mat N L' a ∧ Sat cs' w

def JP (P : Program) (N : Nat) (Q : Exit → Act → World → Prop) (l : List Oper) : Plan → List (Nat × Value) → List Chunk → Prop
  | .done, L, cs => XQ N Q .normal L cs
  | .q i k, L, cs => ∃ o d v, l[i]? = some o ∧ o.dst = some d ∧ d < N ∧ XL P N l.toArray (Qd d v cs) [o] L cs ∧ JP P N Q l k ((d, v) :: L) cs
  | .r i k, L, cs => ∃ o d v, l[i]? = some o ∧ o.dst = some d ∧ lk L d = some v ∧ XL P N l.toArray (Qd d v cs) [o] L cs ∧ JP P N Q l k L cs
  | .e i k, L, cs => ∃ o, l[i]? = some o ∧ XL P N l.toArray (Ed o L (JP P N Q l k) N) [o] L cs
  | .e2 i k i' k', L, cs => (∃ o, l[i]? = some o ∧ XL P N l.toArray (Ed o L (JP P N Q l k) N) [o] L cs) ∧
      (∃ o, l[i']? = some o ∧ XL P N l.toArray (Ed o L (JP P N Q l k') N) [o] L cs)

/-! ### Soundness -/

section
variable {P : Program} {N : Nat} {Q : Exit → Act → World → Prop} {l : List Oper} {anc : List (List Nat)} {qs : List Nat}

def listed (S : Array Bool) (i : Nat) : Prop := S.getD i false = true

theorem listed_set {S : Array Bool} {i j : Nat} (hi : i < S.size) : listed (S.setIfInBounds i true) j ↔ (j = i ∨ listed S j) := by
  unfold listed
  simp only [Array.getD_eq_getD_getElem?, Array.getElem?_setIfInBounds]
  by_cases h : i = j
  · subst h; simp [hi]
  · simp only [if_neg h]
    constructor
    · exact fun x => .inr x
    · rintro (x | x)
      · exact absurd x.symm h
      · exact x

theorem mem_ready' {S : Array Bool} {i : Nat} (hS : S.size = l.length) (h : i ∈ Region.ready .any l.toArray S) : ∃ o, l[i]? = some o ∧ ¬ listed S i ∧ ∀ y ∈ direct o, listed S y := by
  obtain ⟨h1, o, ho, h2⟩ := mem_ready.1 h
  have ho' : l[i]? = some o := by simpa using ho
  refine ⟨o, ho', ?_, ?_⟩
  · have hlt : i < S.size := by rw [hS]; exact (List.getElem?_eq_some_iff.1 ho').1
    unfold listed
    simp [Array.getD, hlt] at h1 ⊢
    exact h1
  · intro y hy
    unfold direct at hy
    obtain ⟨ed, hed, rfl⟩ := List.mem_map.1 hy
    obtain ⟨h3, h4⟩ := List.mem_filter.1 hed
    exact h2 ed (by simpa using h3) h4

/-- Closed downwards. -/
def Down (l : List Oper) (S : Array Bool) : Prop := ∀ i o, l[i]? = some o → listed S i → ∀ y ∈ direct o, listed S y

theorem anc_listed (ha : ancOk l anc = true) {S : Array Bool} (hd : Down l S) : ∀ (j : Nat) (o : Oper), l[j]? = some o → (∀ y ∈ direct o, listed S y) → ∀ x ∈ ancs anc j, listed S x := by
  intro j
  induction j using Nat.strongRecOn with
  | _ j ih =>
    intro o ho hy x hx
    unfold ancOk at ha
    have h1 := List.all_eq_true.1 ha (o, j) (by
      rw [List.mem_iff_getElem?]
      exact ⟨j, by rw [List.getElem?_zipIdx, ho]; simp⟩)
    simp only [Bool.and_eq_true] at h1
    have h2 := List.all_eq_true.1 h1.2 x hx
    simp only [Bool.or_eq_true] at h2
    rcases h2 with h2 | h2
    · exact hy x (List.contains_iff_mem.1 h2)
    · obtain ⟨y, hy1, hy2⟩ := List.any_eq_true.1 h2
      have hlt := List.all_eq_true.1 h1.1 y hy1
      have hlt : y < j := by simp only [Nat.blt] at hlt; exact Nat.lt_of_succ_le (Nat.le_of_ble_eq_true hlt)
      have hyl := hy y hy1
      have hjl : j < l.length := (List.getElem?_eq_some_iff.1 ho).1
      have hoy : l[y]? = some l[y] := List.getElem?_eq_getElem (by omega)
      exact ih y hlt _ hoy (fun z hz => hd y _ hoy hyl z hz) x (List.contains_iff_mem.1 hy2)

theorem ready_ex (ha : ancOk l anc = true) {S : Array Bool} (hS : S.size = l.length) {i : Nat} (hi : i < l.length) (hn : ¬ listed S i) : Region.ready .any l.toArray S ≠ [] := by
  induction i using Nat.strongRecOn with
  | _ i ih =>
    by_cases hall : ∀ y ∈ direct l[i], listed S y
    · intro he
      have : i ∈ Region.ready .any l.toArray S := by
        refine mem_ready.2 ⟨?_, l[i], by simp [hi], ?_⟩
        · unfold listed at hn
          simp [Array.getD, hS, hi] at hn ⊢
          exact hn
        · intro ed hed hb
          refine hall ed.on ?_
          unfold direct
          exact List.mem_map_of_mem (List.mem_filter.2 ⟨by simpa using hed, hb⟩)
      rw [he] at this; cases this
    · simp only [Classical.not_forall] at hall
      obtain ⟨y, hy, hyn⟩ := hall
      unfold ancOk at ha
      have h1 := List.all_eq_true.1 ha (l[i], i) (by
        rw [List.mem_iff_getElem?]
        exact ⟨i, by rw [List.getElem?_zipIdx, List.getElem?_eq_getElem hi]; simp⟩)
      simp only [Bool.and_eq_true] at h1
      have hlt := List.all_eq_true.1 h1.1 y hy
      have hlt : y < i := by simp only [Nat.blt] at hlt; exact Nat.lt_of_succ_le (Nat.le_of_ble_eq_true hlt)
      exact ih y hlt (by omega) hyn

/-- An operation that was walked with all slots known runs alike where only those are known that it looks at. -/
theorem opAt {i : Nat} {o : Oper} {Q' : Exit → Act → World → Prop} {K : Act → World → Prop} {L : List (Nat × Value)} {cs : List Chunk} {a : Act} {w : World} (hi : l[i]? = some o) (hsel : ∀ c b, o.op ≠ .select c b)
    (hsz : a.tmps.size = N) (hkeys : ∀ t v, lk L t = some v → t < N) (hag : ∀ t ∈ looks l o, ∀ v, lk L t = some v → a.tmps[t]? = some v)
    (X : XL P N l.toArray Q' [o] L cs) (hs : Sat cs w) (hQ : ∀ e a w, Q' e a w → e = .normal ∧ a.defers = [])
    (hK : ∀ (v : Value) (a' : Act) (w' : World), (∀ d, o.dst = some d → d < N → a'.tmps[d]? = some v) → Q' .normal a' w' → K (a.put o.dst v) w') : wpOp P l.toArray Q i K a w := by
  let b : Act := { tmps := Array.ofFn (n := N) fun t => (lk L t.1).getD (a.tmps.getD t.1 undef), defers := [] }
  have hb : ∀ t, t < N → b.tmps[t]? = some ((lk L t).getD (a.tmps.getD t undef)) := fun t ht => by
    show (Array.ofFn _)[t]? = _
    simp [ht]
  have hbs : b.tmps.size = N := by show (Array.ofFn _).size = N; simp
  have hm : Mat N L b := ⟨hbs, rfl, fun k v hk => by rw [hb k (hkeys k v hk), hk]; rfl⟩
  have hag' : ∀ t ∈ looks l o, a.tmps[t]? = b.tmps[t]? := fun t ht => by
    by_cases hlt : t < N
    · rw [hb t hlt]
      cases hv : lk L t with
      | some v => rw [hag t ht v hv]; rfl
      | none => simp [Array.getD_eq_getD_getElem?, hsz, hlt]
    · rw [Array.getElem?_eq_none (by omega), Array.getElem?_eq_none (by omega)]
  have hex : execOp a.eval o = execOp b.eval o := execOp_congr o hsel fun x hx => by
    cases x with
    | tmp t =>
      have : t ∈ looks l o := List.mem_append_left _ (List.mem_filterMap.2 ⟨.tmp t, by simpa using hx, rfl⟩)
      have := hag' t this
      simp [Act.eval, Array.getD_eq_getD_getElem?, this]
    | const _ => rfl
    | global _ => rfl
    | func _ => rfl
  have hw : Region.wanted o (yielded l.toArray a.tmps) = Region.wanted o (yielded l.toArray b.tmps) := by
    unfold Region.wanted
    cases hg : o.guard with
    | none => rfl
    | some x =>
      obtain ⟨j, want⟩ := x
      simp only
      unfold yielded
      cases hd : (l[j]?).bind (·.dst) with
      | none => simp [hd]
      | some s =>
        have : s ∈ looks l o := List.mem_append_right _ (by rw [hg]; simp [hd])
        have := hag' s this
        simp [hd, this]
  have hX := X b w hm hs
  unfold wpOp
  have hi' : l.toArray[i]? = some o := by simpa using hi
  simp only [hi']
  unfold wpList at hX
  rw [hw]
  have hput : ∀ v d, o.dst = some d → d < N → (b.put o.dst v).tmps[d]? = some v := fun v d hd hdN => by
    rw [hd]; simp [Act.put, hbs, hdN]
  split
  · rename_i hwant
    rw [if_pos hwant] at hX
    rcases hX with hX | ⟨_, a', w', hX⟩
    · refine .inl ?_
      unfold Oper.wp at *
      rw [hex]
      generalize (execOp b.eval o).run P w = res at hX ⊢
      cases res with
      | ok n w' =>
        cases n <;> simp only [Oper.upon] at hX ⊢ <;> try exact hX.elim
        case value v => exact hK v _ w' (hput v) hX
        case skip => exact hK undef _ w' (hput undef) hX
        case enter f args =>
          refine Calls.mono hX fun e w'' he => ?_
          cases e with
          | returned v => exact hK v _ w'' (hput v) he
          | panicked ch => exact absurd (hQ _ _ _ he).1 (by simp)
          | outgrown => obtain ⟨a', w', h⟩ := he; exact absurd (hQ _ _ _ h).1 (by simp)
        case row row args => exact Rows.mono hX fun v w'' he => hK v _ w'' (hput v) he
        case defer df =>
          have := (hQ _ _ _ hX).2
          have h2 : (({ b with defers := df :: b.defers } : Act).put o.dst undef).defers = df :: b.defers := by cases o.dst <;> rfl
          rw [h2] at this; cases this
      | halt x w' =>
        cases x <;> simp only [Oper.upon] at hX ⊢ <;> try exact hX.elim
        exact absurd (hQ _ _ _ hX).1 (by simp)
    · exact absurd (hQ _ _ _ hX).1 (by simp)
  · rename_i hwant
    rw [if_neg hwant] at hX
    exact hK undef _ w (hput undef) hX

theorem slotsOk.spec (h : slotsOk l anc qs = true) {j : Nat} {o : Oper} (ho : l[j]? = some o) : (∀ c b, o.op ≠ .select c b) ∧
    ∀ i o' d, l[i]? = some o' → o'.dst = some d → (i = j ∨ o.dst ≠ some d) ∧ (d ∈ looks l o → i ∈ ancs anc j ∨ late l anc qs i = true) := by
  unfold slotsOk at h
  have h1 := List.all_eq_true.1 h (o, j) (by
    rw [List.mem_iff_getElem?]
    exact ⟨j, by rw [List.getElem?_zipIdx, ho]; simp⟩)
  simp only [Bool.and_eq_true] at h1
  refine ⟨fun c b he => by rw [he] at h1; exact absurd h1.1 (by simp), fun i o' d hi hd => ?_⟩
  have h2 := List.all_eq_true.1 h1.2 (o', i) (by
    rw [List.mem_iff_getElem?]
    exact ⟨i, by rw [List.getElem?_zipIdx, hi]; simp⟩)
  simp only [hd, Bool.and_eq_true, Bool.or_eq_true] at h2
  refine ⟨?_, fun hl => ?_⟩
  · rcases h2.1 with h3 | h3
    · exact .inl (by simpa using h3)
    · exact .inr (by simpa using h3)
  · rcases h2.2 with h3 | h3
    · rw [List.contains_iff_mem.2 hl] at h3; cases h3
    · exact h3.imp List.contains_iff_mem.1 id

/-- What holds while the region runs. -/
structure Inv (l : List Oper) (anc : List (List Nat)) (qs : List Nat) (N : Nat) (A Pd : List Nat) (L : List (Nat × Value)) (S : Array Bool) (a : Act) : Prop where
  size : S.size = l.length
  down : Down l S
  sub : ∀ i, listed S i → i ∈ A
  pend : ∀ i, i ∈ A → ¬ listed S i → i ∈ Pd
  inA : ∀ i, i ∈ Pd → i ∈ A
  bnd : ∀ i, i ∈ A → i < l.length
  tm : a.tmps.size = N
  df : a.defers = []
  keys : ∀ t v, lk L t = some v → t < N
  slots : ∀ t v, lk L t = some v → (∀ i o, i ∈ A → l[i]? = some o → o.dst = some t → listed S i) → a.tmps[t]? = some v
  lt : ∀ i, i ∈ A → late l anc qs i = true → listed S i

/-- What is known of a quiet operation that may still come. -/
def Fact (P : Program) (N : Nat) (l : List Oper) (L : List (Nat × Value)) (cs : List Chunk) (i : Nat) : Prop :=
  ∃ o d v, l[i]? = some o ∧ o.dst = some d ∧ d < N ∧ lk L d = some v ∧ XL P N l.toArray (Qd d v cs) [o] L cs

theorem XL.mono {ops : Array Oper} {L L' : List (Nat × Value)} {cs : List Chunk} {r : List Oper} (h : XL P N ops Q r L cs) (hl : ∀ k v, lk L k = some v → lk L' k = some v) : XL P N ops Q r L' cs :=
  fun a w hm hs => h a w ⟨hm.1, hm.2.1, fun k v hk => hm.2.2 k v (hl k v hk)⟩ hs

def cnt (l : List Oper) (S : Array Bool) : Nat := (List.range l.length).countP fun i => !S.getD i false

theorem countP_lt {p q : Nat → Bool} : ∀ (r : List Nat), (∀ x ∈ r, q x = true → p x = true) → (∃ x ∈ r, p x = true ∧ q x = false) → r.countP q < r.countP p
  | [], _, h => by obtain ⟨x, hx, _⟩ := h; cases hx
  | y :: r, hm, h => by
    have hr : r.countP q ≤ r.countP p := List.countP_mono_left fun x hx => hm x (List.mem_cons_of_mem _ hx)
    obtain ⟨x, hx, h1, h2⟩ := h
    rw [List.countP_cons, List.countP_cons]
    cases hx with
    | head => rw [h1, h2]; simp; omega
    | tail _ hx =>
      have ih := countP_lt r (fun z hz => hm z (List.mem_cons_of_mem _ hz)) ⟨x, hx, h1, h2⟩
      have := hm y (List.mem_cons_self ..)
      cases hq : q y with
      | true => rw [this hq]; omega
      | false => cases p y <;> simp <;> omega

theorem cnt_set {S : Array Bool} {i : Nat} (hS : S.size = l.length) (hi : i < l.length) (hn : ¬ listed S i) : cnt l (S.setIfInBounds i true) < cnt l S := by
  refine countP_lt _ (fun x hx hq => ?_) ⟨i, by simpa using hi, ?_, ?_⟩
  · have : ¬ listed (S.setIfInBounds i true) x := by unfold listed; simpa using hq
    rw [listed_set (by omega)] at this
    have h2 : ¬ listed S x := fun h => this (.inr h)
    unfold listed at h2; simpa using h2
  · unfold listed at hn; simpa using hn
  · have : listed (S.setIfInBounds i true) i := (listed_set (by omega)).2 (.inl rfl)
    unfold listed at this; simp [this]

theorem Inv.set {A Pd : List Nat} {L : List (Nat × Value)} {S : Array Bool} {a : Act} (h : Inv l anc qs N A Pd L S a) {i : Nat} {o : Oper} {d : Nat} {v : Value} (hi : l[i]? = some o) (hd : o.dst = some d) (hdN : d < N) (hA : i ∈ A)
    (hpre : ∀ y ∈ direct o, listed S y) (hv : lk L d = some v) : Inv l anc qs N A Pd L (S.setIfInBounds i true) (a.put o.dst v) := by
  have hil : i < S.size := by rw [h.size]; exact (List.getElem?_eq_some_iff.1 hi).1
  refine ⟨by simpa using h.size, ?_, ?_, ?_, h.inA, h.bnd, by rw [hd]; simp [Act.put, h.tm], by rw [hd]; simp [Act.put, h.df], h.keys, ?_, fun j hj hl => (listed_set hil).2 (.inr (h.lt j hj hl))⟩
  · intro j o' hj hl y hy
    rw [listed_set hil] at hl ⊢
    rcases hl with rfl | hl
    · rw [hi] at hj; cases hj; exact .inr (hpre y hy)
    · exact .inr (h.down j o' hj hl y hy)
  · intro j hj
    rw [listed_set hil] at hj
    rcases hj with rfl | hj
    · exact hA
    · exact h.sub j hj
  · intro j hj hn
    rw [listed_set hil] at hn
    exact h.pend j hj (fun x => hn (.inr x))
  · intro t u ht hall
    rw [hd]
    by_cases e : t = d
    · subst e
      rw [hv] at ht; cases ht
      simp [Act.put, h.tm, hdN]
    · have := h.slots t u ht (fun j o' hjA hj hdj => by
        have := hall j o' hjA hj hdj
        rw [listed_set hil] at this
        rcases this with rfl | this
        · rw [hi] at hj; cases hj; rw [hd] at hdj; cases hdj; exact absurd rfl e
        · exact this)
      have hne : d ≠ t := fun x => e x.symm
      simp [Act.put, hne, this]

/-- Behind an operation that turned memory. -/
theorem Inv.eff {A Pd Pd' : List Nat} {L L' : List (Nat × Value)} {S : Array Bool} {a : Act} (h : Inv l anc qs N A Pd L S a) {i : Nat} {o : Oper} {v : Value} (hi : l[i]? = some o) (hA : i ∉ A)
    (hpre : ∀ y ∈ direct o, listed S y) (hanc : ∀ y ∈ ancs anc i, listed S y) (hL : match o.dst with | some d => L' = (d, v) :: L ∧ d < N | none => L' = L)
    (hPd : ∀ j, j ∈ Pd' ↔ j ∈ Pd ∧ j ∉ ancs anc i) : Inv l anc qs N (i :: A) Pd' L' (S.setIfInBounds i true) (a.put o.dst v) := by
  have hil : i < S.size := by rw [h.size]; exact (List.getElem?_eq_some_iff.1 hi).1
  refine ⟨by simpa using h.size, ?_, ?_, ?_, ?_, ?_, by cases o.dst <;> simp [Act.put, h.tm], by cases o.dst <;> simp [Act.put, h.df], ?_, ?_, fun j hj hl => (listed_set hil).2 (by
    cases hj with
    | head => exact .inl rfl
    | tail _ hj => exact .inr (h.lt j hj hl))⟩
  · intro j o' hj hl y hy
    rw [listed_set hil] at hl ⊢
    rcases hl with rfl | hl
    · rw [hi] at hj; cases hj; exact .inr (hpre y hy)
    · exact .inr (h.down j o' hj hl y hy)
  · intro j hj
    rw [listed_set hil] at hj
    rcases hj with rfl | hj
    · exact List.mem_cons_self ..
    · exact List.mem_cons_of_mem _ (h.sub j hj)
  · intro j hj hn
    rw [listed_set hil] at hn
    cases hj with
    | head => exact absurd (.inl rfl) hn
    | tail _ hj =>
      have hnl : ¬ listed S j := fun x => hn (.inr x)
      exact (hPd j).2 ⟨h.pend j hj hnl, fun hx => hnl (hanc j hx)⟩
  · exact fun j hj => List.mem_cons_of_mem _ (h.inA j ((hPd j).1 hj).1)
  · intro j hj
    cases hj with
    | head => exact (List.getElem?_eq_some_iff.1 hi).1
    | tail _ hj => exact h.bnd j hj
  · intro t u ht
    cases hd : o.dst with
    | none => rw [hd] at hL; simp only at hL; subst hL; exact h.keys t u ht
    | some d =>
      rw [hd] at hL; simp only at hL
      obtain ⟨rfl, hdN⟩ := hL
      simp only [lk] at ht
      cases hb : Nat.beq d t with
      | true => rw [← Nat.eq_of_beq_eq_true hb]; exact hdN
      | false => rw [hb] at ht; exact h.keys t u ht
  · intro t u ht hall
    have hold : ∀ u, lk L t = some u → o.dst ≠ some t → a.tmps[t]? = some u := fun u hu hne => h.slots t u hu (fun j o' hjA hj hdj => by
      have := hall j o' (List.mem_cons_of_mem _ hjA) hj hdj
      rw [listed_set hil] at this
      rcases this with rfl | this
      · rw [hi] at hj; cases hj; exact absurd hdj hne
      · exact this)
    cases hd : o.dst with
    | none =>
      rw [hd] at hL; simp only at hL; subst hL
      simpa [Act.put] using hold u ht (by rw [hd]; simp)
    | some d =>
      rw [hd] at hL; simp only at hL
      obtain ⟨rfl, hdN⟩ := hL
      simp only [lk] at ht
      cases hb : Nat.beq d t with
      | true =>
        rw [hb] at ht
        obtain rfl : v = u := by simpa using ht
        rw [← Nat.eq_of_beq_eq_true hb]
        simp [Act.put, h.tm, hdN]
      | false =>
        rw [hb] at ht
        have hne : d ≠ t := fun x => by subst x; simp at hb
        have := hold u ht (by rw [hd]; simpa using hne)
        simp [Act.put, hne, this]

theorem Fact.mono {L L' : List (Nat × Value)} {cs : List Chunk} {i : Nat} (h : Fact P N l L cs i) (hl : ∀ k v, lk L k = some v → lk L' k = some v) : Fact P N l L' cs i :=
  let ⟨o, d, v, h1, h2, h3, h4, h5⟩ := h
  ⟨o, d, v, h1, h2, h3, hl _ _ h4, h5.mono hl⟩

/-- A pending quiet operation comes up. -/
theorem Fact.step {A Pd : List Nat} {L : List (Nat × Value)} {cs : List Chunk} {S : Array Bool} {a : Act} {w : World} {K : Act → World → Prop} {i : Nat} (hf : Fact P N l L cs i) (hso : slotsOk l anc qs = true) (hao : ancOk l anc = true)
    (h : Inv l anc qs N A Pd L S a) (hA : i ∈ A) (hpre : ∀ o, l[i]? = some o → ∀ y ∈ direct o, listed S y) (hs : Sat cs w)
    (k : ∀ a' w', Inv l anc qs N A Pd L (S.setIfInBounds i true) a' → Sat cs w' → K a' w') : wpOp P l.toArray Q i K a w := by
  obtain ⟨o, d, v, h1, h2, h3, h4, h5⟩ := hf
  obtain ⟨hsel, hsl⟩ := slotsOk.spec hso h1
  refine opAt h1 hsel h.tm h.keys (fun t ht u hu => h.slots t u hu (fun j o' hjA hj hdj => ((hsl j o' t hj hdj).2 ht).elim (fun hx => anc_listed hao h.down i o h1 (hpre o h1) j hx) (fun hx => h.lt j hjA hx))) h5 hs (fun e a w hq => ⟨hq.1, hq.2.1⟩) ?_
  intro v' a' w' hv' hq
  have := hv' d h2 h3
  rw [hq.2.2.1] at this
  cases this
  exact k _ _ (h.set h1 h2 h3 hA (hpre o h1) h4) hq.2.2.2

theorem cnt_zero {S : Array Bool} (h : cnt l S = 0) : ∀ i, i < l.length → listed S i := by
  intro i hi
  unfold cnt at h
  have := List.countP_eq_zero.1 h i (by simpa using hi)
  unfold listed; simpa using this

theorem Inv.all {A Pd : List Nat} {L : List (Nat × Value)} {S : Array Bool} {a : Act} (h : Inv l anc qs N A Pd L S a) (hall : ∀ i, i < l.length → listed S i) : Mat N L a :=
  ⟨h.tm, h.df, fun t v ht => h.slots t v ht (fun i _ hA _ _ => hall i (h.bnd i hA))⟩

/-- One step at a node where nothing is to be looked at anew: what may come up. -/
theorem stage (hao : ancOk l anc = true) (hso : slotsOk l anc qs = true) {fuel : Nat} {A Pd : List Nat} {L : List (Nat × Value)} {cs : List Chunk} {S : Array Bool} {a : Act} {w : World}
    (hf : ∀ j ∈ Pd, Fact P N l L cs j) (hi : Inv l anc qs N A Pd L S a) (hs : Sat cs w) (hc : cnt l S ≤ fuel) (hdone : (∀ i, i < l.length → listed S i) → Q .normal a w)
    (again : ∀ fuel' S' a' w', fuel' + 1 = fuel → Inv l anc qs N A Pd L S' a' → Sat cs w' → cnt l S' ≤ fuel' → wpAny P .any l.toArray Q fuel' S' a' w')
    (others : ∀ fuel' i o, fuel' + 1 = fuel → l[i]? = some o → i ∉ A → (∀ y ∈ direct o, listed S y) → wpOp P l.toArray Q i (wpAny P .any l.toArray Q fuel' (S.setIfInBounds i true)) a w) : wpAny P .any l.toArray Q fuel S a w := by
  have hemp : Region.ready .any l.toArray S = [] → ∀ i, i < l.length → listed S i := fun hr i hil => by
    apply Classical.byContradiction
    intro hn
    exact ready_ex hao hi.size hil hn hr
  cases fuel with
  | zero =>
    have hall := cnt_zero (l := l) (S := S) (by omega)
    refine ⟨?_, hdone hall⟩
    apply Classical.byContradiction
    intro hne
    obtain ⟨i, hir⟩ := List.exists_mem_of_ne_nil _ hne
    obtain ⟨o, ho, hn, _⟩ := mem_ready' hi.size hir
    exact hn (hall i (List.getElem?_eq_some_iff.1 ho).1)
  | succ fuel =>
    refine ⟨fun hr => hdone (hemp hr), fun i hir => ?_⟩
    obtain ⟨o, ho, hn, hpre⟩ := mem_ready' hi.size hir
    have hil : i < l.length := (List.getElem?_eq_some_iff.1 ho).1
    by_cases hA : i ∈ A
    · refine Fact.step (hf i (hi.pend i hA hn)) hso hao hi hA (fun o' ho' => by rw [ho] at ho'; cases ho'; exact hpre) hs ?_
      intro a' w' hi' hs'
      refine again fuel _ a' w' rfl hi' hs' ?_
      have := cnt_set hi.size hil hn
      omega
    · exact others fuel i o rfl ho hA hpre

theorem JP.sound (hao : ancOk l anc = true) (hso : slotsOk l anc qs = true) : ∀ (fuel : Nat) (p : Plan) (A Pd todo : List Nat) (L : List (Nat × Value)) (cs : List Chunk) (S : Array Bool) (a : Act) (w : World),
    planOk l anc qs p A Pd todo = true → JP P N Q l p L cs → (∀ j ∈ Pd, j ∉ todo → Fact P N l L cs j) → (∀ i o d, l[i]? = some o → o.dst = some d → i ∉ A → lk L d = none ∨ late l anc qs i = true) →
    Inv l anc qs N A Pd L S a → Sat cs w → cnt l S ≤ fuel → wpAny P .any l.toArray Q fuel S a w := by
  intro fuel
  induction fuel using Nat.strongRecOn with
  | _ fuel ihf =>
    -- behind an operation that turned memory
    have eff : ∀ (i : Nat) (k : Plan) (A Pd : List Nat) (L : List (Nat × Value)) (cs : List Chunk) (S : Array Bool) (a : Act) (w : World) (fuel' : Nat) (o : Oper), fuel' + 1 = fuel → l[i]? = some o → i ∉ A → (∀ y ∈ direct o, listed S y) →
        planOk l anc qs k (i :: A) (Pd.filter fun j => !(ancs anc i).contains j) (Pd.filter fun j => !(ancs anc i).contains j) = true → XL P N l.toArray (Ed o L (JP P N Q l k) N) [o] L cs →
        (∀ i o d, l[i]? = some o → o.dst = some d → i ∉ A → lk L d = none ∨ late l anc qs i = true) → Inv l anc qs N A Pd L S a → Sat cs w → cnt l S ≤ fuel →
        wpOp P l.toArray Q i (wpAny P .any l.toArray Q fuel' (S.setIfInBounds i true)) a w := by
      intro i k A Pd L cs S a w fuel' o hfu ho hA hpre hp hX hfr hi hs hc
      obtain ⟨hsel, hsl⟩ := slotsOk.spec hso ho
      have hil : i < l.length := (List.getElem?_eq_some_iff.1 ho).1
      have hnl : ¬ listed S i := fun h => hA (hi.sub i h)
      refine opAt ho hsel hi.tm hi.keys (fun t ht u hu => hi.slots t u hu (fun j o' hjA hj hdj => ((hsl j o' t hj hdj).2 ht).elim (fun hx => anc_listed hao hi.down i o ho hpre j hx) (fun hx => hi.lt j hjA hx))) hX hs (fun e a w hq => ?_) ?_
      · obtain ⟨h1, L', cs', h2, h3, h4, h5⟩ := hq
        exact ⟨h1, h4.2.1⟩
      intro v a' w' hv hq
      obtain ⟨_, L', cs', h2, h3, h4, h5⟩ := hq
      have hanc := anc_listed hao hi.down i o ho hpre
      have hLL : match o.dst with | some d => L' = (d, v) :: L ∧ d < N | none => L' = L := by
        unfold Ext at h2
        cases hd : o.dst with
        | none => rw [hd] at h2; exact h2
        | some d =>
          rw [hd] at h2
          obtain ⟨u, rfl⟩ := h2
          have hu := h4.2.2 d u (by simp [lk])
          have hdN : d < N := by rw [← h4.1]; exact (Array.getElem?_eq_some_iff.1 hu).1
          have := hv d hd hdN
          rw [hu] at this; cases this
          exact ⟨rfl, hdN⟩
      have hi' : Inv l anc qs N (i :: A) (Pd.filter fun j => !(ancs anc i).contains j) L' (S.setIfInBounds i true) (a.put o.dst v) := hi.eff ho hA hpre hanc hLL (fun j => by simp)
      refine ihf fuel' (by omega) k _ _ _ L' cs' _ _ w' hp h3 (fun j hj hn => absurd hj hn) ?_ hi' h5 ?_
      · intro j o' d hj hdj hjA
        have hjA' : j ∉ A := fun x => hjA (List.mem_cons_of_mem _ x)
        have hji : j ≠ i := fun x => hjA (by rw [x]; exact List.mem_cons_self ..)
        refine (hfr j o' d hj hdj hjA').imp (fun h0 => ?_) id
        cases hd : o.dst with
        | none => rw [hd] at hLL; simp only at hLL; subst hLL; exact h0
        | some d2 =>
          rw [hd] at hLL; simp only at hLL
          obtain ⟨rfl, _⟩ := hLL
          have hne : d2 ≠ d := fun x => by
            rcases (hsl j o' d hj hdj).1 with h | h
            · exact hji h
            · exact h (by rw [hd, x])
          have : Nat.beq d2 d = false := by rw [Bool.eq_false_iff]; intro hb; exact hne (Nat.eq_of_beq_eq_true hb)
          simp only [lk, this]; exact h0
      · have := cnt_set hi.size hil hnl
        omega
    intro p
    induction p with
    | done =>
      intro A Pd todo L cs S a w hp hj hf hfr hi hs hc
      simp only [planOk, Bool.and_eq_true] at hp
      have htodo : todo = [] := by simpa using hp.1
      subst htodo
      have hallA : ∀ i, i < l.length → i ∈ A := fun i hil => by
        have := List.all_eq_true.1 hp.2 i (by simpa using hil)
        exact List.contains_iff_mem.1 this
      refine stage hao hso (fun j hj => hf j hj (by simp)) hi hs hc (fun hall => hj a w (hi.all hall) hs) ?_ ?_
      · intro fuel' S' a' w' hfu hi' hs' hc'
        exact ihf fuel' (by omega) .done A Pd [] L cs S' a' w' (by simp only [planOk, Bool.and_eq_true]; exact hp) hj hf hfr hi' hs' hc'
      · intro fuel' i o _ ho hA _
        exact absurd (hallA i (List.getElem?_eq_some_iff.1 ho).1) hA
    | q i k ih =>
      intro A Pd todo L cs S a w hp hj hf hfr hi hs hc
      simp only [planOk, Bool.and_eq_true] at hp
      obtain ⟨⟨⟨⟨h1, h2⟩, h2q⟩, h3⟩, h4⟩ := hp
      have htodo : todo = [] := by simpa using h1
      subst htodo
      have hA : i ∉ A := by simpa using h2
      obtain ⟨o, d, v, ho, hd, hdN, hX, hk⟩ := hj
      have hnlt : late l anc qs i = false := by unfold late; rw [h2q]; rfl
      have hfd := (hfr i o d ho hd hA).resolve_right (by rw [hnlt]; exact Bool.false_ne_true)
      have hext : ∀ t u, lk L t = some u → lk ((d, v) :: L) t = some u := fun t u ht => by
        have hne : d ≠ t := fun x => by subst x; rw [hfd] at ht; cases ht
        have : Nat.beq d t = false := by rw [Bool.eq_false_iff]; intro hb; exact hne (Nat.eq_of_beq_eq_true hb)
        simp only [lk, this]; exact ht
      obtain ⟨hsel, hsl⟩ := slotsOk.spec hso ho
      have hnl : ¬ listed S i := fun h => hA (hi.sub i h)
      refine ih (i :: A) (i :: Pd) [] _ cs S a w h4 hk ?_ ?_ ?_ hs hc
      · intro j hj _
        cases hj with
        | head => exact ⟨o, d, v, ho, hd, hdN, by simp [lk], hX.mono hext⟩
        | tail _ hj => exact (hf j hj (by simp)).mono hext
      · intro j o' d' hj hdj hjA
        have hjA' : j ∉ A := fun x => hjA (List.mem_cons_of_mem _ x)
        have hji : j ≠ i := fun x => hjA (by rw [x]; exact List.mem_cons_self ..)
        refine (hfr j o' d' hj hdj hjA').imp (fun h0 => ?_) id
        have hne : d ≠ d' := fun x => by
          rcases (hsl j o' d' hj hdj).1 with h | h
          · exact hji h
          · exact h (by rw [hd, x])
        have : Nat.beq d d' = false := by rw [Bool.eq_false_iff]; intro hb; exact hne (Nat.eq_of_beq_eq_true hb)
        simp only [lk, this]; exact h0
      · refine ⟨hi.size, hi.down, fun j hj => List.mem_cons_of_mem _ (hi.sub j hj), fun j hj hn => ?_, fun j hj => ?_, fun j hj => ?_, hi.tm, hi.df, fun t u ht => ?_, fun t u ht hall => ?_, fun j hj hl => ?_⟩
        · cases hj with
          | head => exact List.mem_cons_self ..
          | tail _ hj => exact List.mem_cons_of_mem _ (hi.pend j hj hn)
        · cases hj with
          | head => exact List.mem_cons_self ..
          | tail _ hj => exact List.mem_cons_of_mem _ (hi.inA j hj)
        · cases hj with
          | head => exact (List.getElem?_eq_some_iff.1 ho).1
          | tail _ hj => exact hi.bnd j hj
        · simp only [lk] at ht
          cases hb : Nat.beq d t with
          | true => rw [← Nat.eq_of_beq_eq_true hb]; exact hdN
          | false => rw [hb] at ht; exact hi.keys t u ht
        · by_cases e : d = t
          · subst e
            exact absurd (hall i o (List.mem_cons_self ..) ho hd) hnl
          · have : Nat.beq d t = false := by rw [Bool.eq_false_iff]; intro hb; exact e (Nat.eq_of_beq_eq_true hb)
            simp only [lk, this] at ht
            exact hi.slots t u ht (fun j o' hjA => hall j o' (List.mem_cons_of_mem _ hjA))
        · cases hj with
          | head => rw [hnlt] at hl; cases hl
          | tail _ hj => exact hi.lt j hj hl
    | r i k ih =>
      intro A Pd todo L cs S a w hp hj hf hfr hi hs hc
      simp only [planOk, Bool.and_eq_true] at hp
      obtain ⟨o, d, v, ho, hd, hv, hX, hk⟩ := hj
      refine ih A Pd _ L cs S a w hp.2 hk (fun j hjP hn => ?_) hfr hi hs hc
      by_cases e : j = i
      · subst e
        exact ⟨o, d, v, ho, hd, hi.keys d v hv, hv, hX⟩
      · exact hf j hjP (fun hx => hn (List.mem_filter.2 ⟨hx, by simpa using e⟩))
    | e i k _ =>
      intro A Pd todo L cs S a w hp hj hf hfr hi hs hc
      have hp0 := hp
      simp only [planOk, Bool.and_eq_true] at hp
      obtain ⟨⟨⟨h1, h2⟩, h3⟩, h4⟩ := hp
      have htodo : todo = [] := by simpa using h1
      subst htodo
      have hA : i ∉ A := by simpa using h2
      obtain ⟨o, ho, hX⟩ := hj
      have hil : i < l.length := (List.getElem?_eq_some_iff.1 ho).1
      have hnl : ¬ listed S i := fun h => hA (hi.sub i h)
      refine stage hao hso (fun j hj => hf j hj (by simp)) hi hs hc (fun hall => absurd (hall i hil) hnl) ?_ ?_
      · intro fuel' S' a' w' hfu hi' hs' hc'
        exact ihf fuel' (by omega) (.e i k) A Pd [] L cs S' a' w' hp0 ⟨o, ho, hX⟩ hf hfr hi' hs' hc'
      · intro fuel' j o' hfu ho' hjA hpre
        have hjl : j < l.length := (List.getElem?_eq_some_iff.1 ho').1
        have h5 := List.all_eq_true.1 h3 j (by simpa using hjl)
        simp only [Bool.or_eq_true] at h5
        rcases h5 with (h5 | h5) | h5
        · exact absurd (List.contains_iff_mem.1 h5) hjA
        · obtain rfl : j = i := by simpa using h5
          rw [ho] at ho'; cases ho'
          exact eff j k A Pd L cs S a w fuel' o hfu ho hA hpre h4 hX hfr hi hs hc
        · exact absurd (anc_listed hao hi.down j o' ho' hpre i (List.contains_iff_mem.1 h5)) hnl
    | e2 i k i' k' _ _ =>
      intro A Pd todo L cs S a w hp hj hf hfr hi hs hc
      have hp0 := hp
      simp only [planOk, Bool.and_eq_true] at hp
      obtain ⟨⟨⟨⟨⟨h1, h2⟩, h2'⟩, h3⟩, h4⟩, h4'⟩ := hp
      have htodo : todo = [] := by simpa using h1
      subst htodo
      have hA : i ∉ A := by simpa using h2
      have hA' : i' ∉ A := by simpa using h2'
      obtain ⟨⟨o, ho, hX⟩, o2, ho2, hX2⟩ := hj
      have hil : i < l.length := (List.getElem?_eq_some_iff.1 ho).1
      have hnl : ¬ listed S i := fun h => hA (hi.sub i h)
      have hnl' : ¬ listed S i' := fun h => hA' (hi.sub i' h)
      refine stage hao hso (fun j hj => hf j hj (by simp)) hi hs hc (fun hall => absurd (hall i hil) hnl) ?_ ?_
      · intro fuel' S' a' w' hfu hi' hs' hc'
        exact ihf fuel' (by omega) (.e2 i k i' k') A Pd [] L cs S' a' w' hp0 ⟨⟨o, ho, hX⟩, o2, ho2, hX2⟩ hf hfr hi' hs' hc'
      · intro fuel' j o' hfu ho' hjA hpre
        have hjl : j < l.length := (List.getElem?_eq_some_iff.1 ho').1
        have h5 := List.all_eq_true.1 h3 j (by simpa using hjl)
        simp only [Bool.or_eq_true] at h5
        rcases h5 with (((h5 | h5) | h5) | h5) | h5
        · exact absurd (List.contains_iff_mem.1 h5) hjA
        · obtain rfl : j = i := by simpa using h5
          rw [ho] at ho'; cases ho'
          exact eff j k A Pd L cs S a w fuel' o hfu ho hA hpre h4 hX hfr hi hs hc
        · obtain rfl : j = i' := by simpa using h5
          rw [ho2] at ho'; cases ho'
          exact eff j k' A Pd L cs S a w fuel' o2 hfu ho2 hA' hpre h4' hX2 hfr hi hs hc
        · exact absurd (anc_listed hao hi.down j o' ho' hpre i (List.contains_iff_mem.1 h5)) hnl
        · exact absurd (anc_listed hao hi.down j o' ho' hpre i' (List.contains_iff_mem.1 h5)) hnl'

/-- The slots that are written in the region are not known at its begin. -/
def fresh (l : List Oper) (qs : List Nat) (L : List (Nat × Value)) : Bool := l.zipIdx.all fun (o, i) => match o.dst with | some d => (L.all fun x => !Nat.beq x.1 d) || late l (ancOf l) qs i | none => true

theorem fresh.spec {L : List (Nat × Value)} (h : fresh l qs L = true) {i : Nat} {o : Oper} {d : Nat} (ho : l[i]? = some o) (hd : o.dst = some d) : lk L d = none ∨ late l (ancOf l) qs i = true := by
  have h1 := List.all_eq_true.1 h (o, i) (by
    rw [List.mem_iff_getElem?]
    exact ⟨i, by rw [List.getElem?_zipIdx, ho]; simp⟩)
  simp only [hd, Bool.or_eq_true] at h1
  rcases h1 with h1 | h1
  case inr => exact .inr h1
  refine .inl ?_
  clear h
  induction L with
  | nil => rfl
  | cons x L ih =>
    obtain ⟨j, u⟩ := x
    simp only [List.all_cons, Bool.and_eq_true] at h1
    have : Nat.beq j d = false := by simpa using h1.1
    simp only [lk, this]
    exact ih h1.2

/-- A statement that leaves its order open. -/
theorem XC.drw {id : Nat} {L : List (Nat × Value)} {cs : List Chunk} (p : Plan) (hm : P.follows .mixedOrders = true) (hr : regOk l p = true) (hfr : fresh l p.qs L = true) (h : JP P N Q l p L cs) : XC P N Q (.region id l.toArray true) L cs := by
  intro a w hma hs
  simp only [regOk, Bool.and_eq_true] at hr
  refine wp_region_any hm ?_
  have hkeys : ∀ t v, lk L t = some v → t < N := fun t v ht => by
    rw [← hma.1]; exact (Array.getElem?_eq_some_iff.1 (hma.2.2 t v ht)).1
  have hS : (Array.replicate l.toArray.size false).size = l.length := by simp
  have hn : ∀ i, ¬ listed (Array.replicate l.toArray.size false) i := fun i h => by
    unfold listed at h
    simp only [Array.getD_eq_getD_getElem?, Array.getElem?_replicate] at h
    split at h <;> simp at h
  refine JP.sound hr.1.1 hr.1.2 _ p [] [] [] L cs _ a _ hr.2 h (fun j hj => by cases hj) (fun i o d ho hd _ => fresh.spec hfr ho hd) ?_ hs.drew ?_
  · exact ⟨hS, fun i o _ hl => absurd hl (hn i), fun i hl => absurd hl (hn i), fun i hi => absurd hi List.not_mem_nil, fun i hi => absurd hi List.not_mem_nil, fun i hi => absurd hi List.not_mem_nil, hma.1, hma.2.1, hkeys, fun t v ht _ => hma.2.2 t v ht, fun i hi => absurd hi List.not_mem_nil⟩
  · have := List.countP_le_length (p := fun i => !(Array.replicate l.toArray.size false).getD i false) (l := List.range l.length)
    unfold cnt
    simpa using this

theorem JP.done {L : List (Nat × Value)} {cs : List Chunk} (h : XQ N Q .normal L cs) : JP P N Q l .done L cs := h
theorem JP.qq {i d : Nat} {k : Plan} {o : Oper} {v : Value} {L : List (Nat × Value)} {cs : List Chunk} (hi : l[i]? = some o) (hd : o.dst = some d) (hN : Nat.blt d N = true) (hX : XL P N l.toArray (Qd d v cs) [o] L cs) (h : JP P N Q l k ((d, v) :: L) cs) : JP P N Q l (.q i k) L cs :=
  ⟨o, d, v, hi, hd, by simp only [Nat.blt] at hN; exact Nat.lt_of_succ_le (Nat.le_of_ble_eq_true hN), hX, h⟩
theorem JP.rr {i d : Nat} {k : Plan} {o : Oper} {v : Value} {L : List (Nat × Value)} {cs : List Chunk} (hi : l[i]? = some o) (hd : o.dst = some d) (hv : lk L d = some v) (hX : XL P N l.toArray (Qd d v cs) [o] L cs) (h : JP P N Q l k L cs) : JP P N Q l (.r i k) L cs :=
  ⟨o, d, v, hi, hd, hv, hX, h⟩
theorem JP.ee {i : Nat} {k : Plan} {o : Oper} {L : List (Nat × Value)} {cs : List Chunk} (hi : l[i]? = some o) (hX : XL P N l.toArray (Ed o L (JP P N Q l k) N) [o] L cs) : JP P N Q l (.e i k) L cs := ⟨o, hi, hX⟩
theorem JP.e22 {i i' : Nat} {k k' : Plan} {L : List (Nat × Value)} {cs : List Chunk} (h : ∃ o, l[i]? = some o ∧ XL P N l.toArray (Ed o L (JP P N Q l k) N) [o] L cs)
    (h' : ∃ o, l[i']? = some o ∧ XL P N l.toArray (Ed o L (JP P N Q l k') N) [o] L cs) : JP P N Q l (.e2 i k i' k') L cs := ⟨h, h'⟩
/-- A slot's value in other words; whether or not. -/
theorem JP.mono {L L' : List (Nat × Value)} {cs : List Chunk} (h : ∀ a w, Mat N L a → Sat cs w → Mat N L' a) (k : JP P N Q l .done L' cs) : JP P N Q l .done L cs := fun a w hm hs => k a w (h a w hm hs) hs
/-- The quiet operation is through. -/
theorem XL.qd {ops : Array Oper} {d : Nat} {v : Value} {L : List (Nat × Value)} {cs : List Chunk} : XL P N ops (Qd d v cs) [] ((d, v) :: L) cs :=
  XL.nil fun _ _ hm hs => ⟨rfl, hm.2.1, hm.2.2 d v (by simp [lk]), hs⟩
theorem XL.qdp {ops : Array Oper} {d : Nat} {v : Value} {L : List (Nat × Value)} {cs cs' : List Chunk} (h : ∀ w, Sat cs' w → Sat cs w) : XL P N ops (Qd d v cs) [] ((d, v) :: L) cs' :=
  XL.nil fun _ w hm hs => ⟨rfl, hm.2.1, hm.2.2 d v (by simp [lk]), h w hs⟩
/-- The operation that turns memory is through: one with a value. -/
theorem XL.ed {ops : Array Oper} {J : List (Nat × Value) → List Chunk → Prop} {d : Nat} {v : Value} {op : Op} {ty : TypeId} {pos : String} {af : Array Edge} {g : Option (Nat × Bool)} {L : List (Nat × Value)} {cs : List Chunk} (h : J ((d, v) :: L) cs) :
    XL P N ops (Ed ⟨some d, op, ty, pos, af, g⟩ L J N) [] ((d, v) :: L) cs :=
  XL.nil fun _ _ hm hs => ⟨rfl, _, _, ⟨v, rfl⟩, h, hm, hs⟩
/-- One without. -/
theorem XL.edn {ops : Array Oper} {J : List (Nat × Value) → List Chunk → Prop} {op : Op} {ty : TypeId} {pos : String} {af : Array Edge} {g : Option (Nat × Bool)} {L : List (Nat × Value)} {cs : List Chunk} (h : J L cs) :
    XL P N ops (Ed ⟨none, op, ty, pos, af, g⟩ L J N) [] L cs :=
  XL.nil fun _ _ hm hs => ⟨rfl, _, _, rfl, h, hm, hs⟩

/-! ### Chunks opened and shut -/
variable {cs r : List Chunk} {L : List (Nat × Value)} {c : Code} {ops : Array Oper} {rest : List Oper}
theorem XC.opn {α : Type} {f : α → List Chunk} (ht : Take1 cs (exi f) r) (h : ∀ x, XC P N Q c L (f x ++ r)) : XC P N Q c L cs :=
  fun a w hm hs => let ⟨x, hx⟩ := Sat.opens (hs.perm ht); h x a w hm hx
theorem XL.opn {α : Type} {f : α → List Chunk} (ht : Take1 cs (exi f) r) (h : ∀ x, XL P N ops Q rest L (f x ++ r)) : XL P N ops Q rest L cs :=
  fun a w hm hs => let ⟨x, hx⟩ := Sat.opens (hs.perm ht); h x a w hm hx
/-- A fact that stands among the chunks. -/
theorem XC.fact {p : Prop} (ht : Take1 cs (pur p) r) (h : p → XC P N Q c L r) : XC P N Q c L cs :=
  fun a w hm hs => have h1 := hs.perm ht; h (Sat.fact h1) a w hm h1.tail
theorem XL.fact {p : Prop} (ht : Take1 cs (pur p) r) (h : p → XL P N ops Q rest L r) : XL P N ops Q rest L cs :=
  fun a w hm hs => have h1 := hs.perm ht; h (Sat.fact h1) a w hm h1.tail
theorem XC.perm {need : List Chunk} (ht : Take cs need r) (h : XC P N Q c L need) : XC P N Q c L cs := fun a w hm hs => h a w hm (ht.sat hs)
theorem XL.perm {need : List Chunk} (ht : Take cs need r) (h : XL P N ops Q rest L need) : XL P N ops Q rest L cs := fun a w hm hs => h a w hm (ht.sat hs)
end
end Go.Sx

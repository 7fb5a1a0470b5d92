/-
  The calculus Sx, part 10: windows of slices, append and clear within one block, tests with nil, a slice seen as a block.
-/
import Derived.Test.YteeiccjglmehcaaGreatSx9
namespace Go.Sx
open Go

/-- A contract with other words for what it leaves. -/
theorem Does.imp {P : Program} {f : FuncId} {args : List Value} {cs : List Chunk} {R R' : Value → List Chunk → Prop} (h : Does P f args cs R) (k : ∀ v c, R v c → ∃ c', R' v c' ∧ ∀ F w, Sat (c ++ [F]) w → Sat (c' ++ [F]) w) : Does P f args cs R' :=
  fun F w hs => (h F w hs).mono fun _ _ ⟨v, c, h1, h2, h3⟩ => let ⟨c', h4, h5⟩ := k v c h2; ⟨v, c', h1, h4, h5 F _ h3⟩

theorem eqSlF {P : Program} {t e : TypeId} {p : Addr} {n cap : Nat} (ht : P.underlying t = some (.slice e)) (d : Nat) (w : World) : (Op.equalIn (d + 1) t (.slice (some p) n cap) (.slice none 0 0)).run P w = .ok false w := by
  simp [Op.equalIn, run_underlying ht]
theorem eqSlT {P : Program} {t e : TypeId} (ht : P.underlying t = some (.slice e)) (d : Nat) (w : World) : (Op.equalIn (d + 1) t (.slice none 0 0) (.slice none 0 0)).run P w = .ok true w := by
  simp [Op.equalIn, run_underlying ht]
theorem bEqSlF {P : Program} {t e : TypeId} {x y : Operand} {v : Value} {b : Nat} [h : IsAt v b] (ht : P.underlying t = some (.slice e)) : BinR P .eql t x y v (.slice none 0 0) (.bool false) := by
  obtain ⟨n, cap, rfl⟩ := h.eq
  exact bEqOf (fun w => by simp only [binOp, Sem.run_bind, equal_of (eqSlF ht)]; rfl) (fun w => rfl)
theorem bEqSlT {P : Program} {t e : TypeId} {x y : Operand} (ht : P.underlying t = some (.slice e)) : BinR P .eql t x y (.slice none 0 0) (.slice none 0 0) (.bool true) :=
  bEqOf (fun w => by simp only [binOp, Sem.run_bind, equal_of (eqSlT ht)]; rfl) (fun w => rfl)

section
variable {P : Program} {N : Nat} {Q : Exit → Act → World → Prop} {L L' : List (Nat × Value)} {cs cs' : List Chunk} {ops : Array Oper} {l : List Oper}
variable {d : Nat} {ty : TypeId} {pos : String} {af : Array Edge} {g : Option (Nat × Bool)}
variable {α : Type} {enc : α → List Value} {xs : List α} {e : TypeId} {sz : Nat} {v : Value}

/-- Where a slice lies, if it has elements. -/
theorem XC.isAtOr {c : Code} (v : Value) [hv : AtV cs v enc xs e sz] (h : ∀ b, (0 < xs.length → IsAt v b) → XC P N Q c L cs) : XC P N Q c L cs := by
  by_cases h0 : 0 < xs.length
  · exact XC.isAt v 0 h0 (fun b hb => h b (fun _ => hb))
  · exact h 0 (fun hx => absurd hx h0)

/-- A slice that has elements, seen as a block. -/
theorem XC.opS {c : Code} {r : List Chunk} (v : Value) (ht : Take1 cs (sl v enc xs e sz) r) (hj : 0 < xs.length)
    (h : ∀ b cap sp, v = .slice (some ⟨b, 0, none⟩) xs.length cap → cap ≤ maxI → ((xs.map enc).flatten ++ sp).length = cap * sz → (∀ x ∈ xs, (enc x).length = sz) → XC P N Q c L (blk b ((xs.map enc).flatten ++ sp) e :: r)) : XC P N Q c L cs := fun a w hm hs => by
  obtain ⟨D1, D2, h1, h2, h3, ⟨h4, h4'⟩, h5⟩ := hs.perm ht
  rcases h4' with ⟨_, rfl⟩ | ⟨b, cap, sp, hv, hD, hcap, hlen, hh⟩
  · simp at hj
  · exact h b cap sp hv hcap hlen h4 a w hm ⟨D1, D2, h1, h2, h3, ⟨hD, hh⟩, h5⟩
/-- A block seen as a slice. -/
theorem sl_of {w : World} {r : List Chunk} {b cap : Nat} {sp cells : List Value} (h : Sat (blk b cells e :: r) w) (hc : cells = (xs.map enc).flatten ++ sp) (hcap : cap ≤ maxI) (hlen : cells.length = cap * sz) (hx : ∀ x ∈ xs, (enc x).length = sz) :
    Sat (sl (.slice (some ⟨b, 0, none⟩) xs.length cap) enc xs e sz :: r) w := by
  obtain ⟨D1, D2, h1, h2, h3, ⟨hD, hh⟩, h5⟩ := h
  subst hc
  exact ⟨D1, D2, h1, h2, h3, ⟨hx, .inr ⟨b, cap, sp, rfl, hD, hcap, hlen, hh⟩⟩, h5⟩

theorem XL.oneV {rest : List Oper} (v : Value) [hv : AtV cs v enc xs e sz] (h : OneV v → XL P N ops Q rest L cs) : XL P N ops Q rest L cs := fun a w hm hs => by
  obtain ⟨r, hr⟩ := hv.mem
  exact h (sl_one (hs.perm hr)) a w hm hs

/-- 'len(s)' of a slice value that is known. -/
theorem XL.lenW {t : TypeId} {x : Operand} {p : Option Addr} {n cap by_ : Nat} (ht : elemI P t = some (e, sz, by_)) (hx : ev L x = some (.slice p n cap))
    (hc : chk ops L N d g = true) (k : XL P N ops Q l ((d, .int .i64 (n : Int)) :: L) cs) : XL P N ops Q (⟨some d, .call ⟨.builtin .len, #[x], #[t]⟩, ty, pos, af, g⟩ :: l) L cs :=
  XL.stepP rfl hc (fun a w hm => by
    have hu := (elemI.run ht).1
    simp [execOp, resolve, invoke, builtin, Builtin.len_, hm.eval hx, run_underlying hu, goInt]) k

/-- 's[lo:hi:max]'. -/
theorem XL.slW {t : TypeId} {x : Operand} {lo hi mx : Option Operand} {b o n cap by_ : Nat} (a h m : Nat) (ht : elemI P t = some (e, sz, by_)) (hx : ev L x = some (.slice (some ⟨b, o, none⟩) n cap))
    (hlo : match lo with | none => a = 0 | some y => ∃ kd, ev L y = some (.int kd (a : Int))) (hmh : (mx.isSome && hi.isNone) = false) (hhi : match hi with | none => h = n | some y => ∃ kd, ev L y = some (.int kd (h : Int))) (hmx : match mx with | none => m = cap | some y => ∃ kd, ev L y = some (.int kd (m : Int)))
    (hah : a ≤ h) (hhm : h ≤ m) (hmc : m ≤ cap) (hc : chk ops L N d g = true) (k : XL P N ops Q l ((d, .slice (some ⟨b, if m = a then o else o + a * sz, none⟩) (h - a) (m - a)) :: L) cs) :
    XL P N ops Q (⟨some d, .slice t x lo hi mx, ty, pos, af, g⟩ :: l) L cs :=
  XL.stepP rfl hc (fun ac w hm => by
    obtain ⟨hu, inf, hinf, hsz, _⟩ := elemI.run ht
    have hB : ∀ (kd : IntKind) (n y : Nat) (code : BoundsCode), n ≤ y → (Instr.sliceBound (.int kd (n : Int)) y code).run P w = .ok n w := by
      intro kd n y code h
      simp [Instr.sliceBound, asIntOf, h]
    have hbd : (Instr.sliceBounds true n cap (lo.map ac.eval) (hi.map ac.eval) (mx.map ac.eval)).run P w = .ok (a, h, m) w := by
      cases mx with
      | none =>
        simp only at hmx; subst hmx
        cases hi with
        | none =>
          simp only at hhi; subst hhi
          cases lo with
          | none => simp only at hlo; subst hlo; simp [Instr.sliceBounds]
          | some z => obtain ⟨kz, hz⟩ := hlo; simp [Instr.sliceBounds, hm.eval hz, hB kz a h .sliceB hah]
        | some y =>
          obtain ⟨kd, hk⟩ := hhi
          cases lo with
          | none => simp only at hlo; subst hlo; simp [Instr.sliceBounds, hm.eval hk, hB kd h m .sliceAcap hhm]
          | some z => obtain ⟨kz, hz⟩ := hlo; simp [Instr.sliceBounds, hm.eval hk, hm.eval hz, hB kd h m .sliceAcap hhm, hB kz a h .sliceB hah]
      | some q =>
        obtain ⟨kq, hq⟩ := hmx
        cases hi with
        | none => simp at hmh
        | some y =>
          obtain ⟨kd, hk⟩ := hhi
          cases lo with
          | none => simp only at hlo; subst hlo; simp [Instr.sliceBounds, hm.eval hk, hm.eval hq, hB kq m cap .slice3Acap hmc, hB kd h m .slice3B hhm]
          | some z => obtain ⟨kz, hz⟩ := hlo; simp [Instr.sliceBounds, hm.eval hk, hm.eval hz, hm.eval hq, hB kq m cap .slice3Acap hmc, hB kd h m .slice3B hhm, hB kz a h .slice3C hah]
    simp only [execOp, hm.eval hx, Instr.sliceAt, Sem.run_bind, run_underlying hu, Result.andThen_ok, Instr.slice, hbd, sizeOf, typeInfo, Sem.run_pure]
    by_cases hma : m = a <;> simp [hinf, hsz, hma, add_none]) k

/-- 'append(s, t...)' where both lie in one block and there is room. -/
theorem XL.apW {t : TypeId} {x y : Operand} {b o1 o2 n1 n2 cap1 cap2 by_ : Nat} {cells : List Value} {e' : TypeId} (ht : elemI P t = some (e, sz, by_)) (hx : ev L x = some (.slice (some ⟨b, o1, none⟩) n1 cap1)) (hy : ev L y = some (.slice (some ⟨b, o2, none⟩) n2 cap2))
    [hb : AtB cs b cells e'] (hroom : n1 + n2 ≤ cap1) (h2 : o2 + n2 * sz ≤ cells.length) (h1 : o1 + (n1 + n2) * sz ≤ cells.length) (hone : ((cells.drop o2).take (n2 * sz)).all oneC = true)
    [hu : UpB cs b cells (setsN cells (o1 + n1 * sz) ((cells.drop o2).take (n2 * sz))) cs'] (hc : chk ops L N d g = true) (k : XL P N ops Q l ((d, .slice (some ⟨b, o1, none⟩) (n1 + n2) cap1) :: L) cs') :
    XL P N ops Q (⟨some d, .call ⟨.builtin .append, #[x, y], #[t, t]⟩, ty, pos, af, g⟩ :: l) L cs :=
  XL.stepE (α := Unit) (v := fun _ => .slice (some ⟨b, o1, none⟩) (n1 + n2) cap1) (cx := fun _ => cs') rfl hc (fun a w hm hs => by
    obtain ⟨hut, inf, hinf, hsz, _⟩ := elemI.run ht
    obtain ⟨r, e2, h3, h4⟩ := hu.mem
    have hh := (Sat.cell (hs.perm h3)).2
    have hl2 : ((cells.drop o2).take (n2 * sz)).length = n2 * sz := by simp; omega
    have hf : (Builtin.firstCells sz n2 (.slice (some ⟨b, o2, none⟩) n2 cap2)).run P w = .ok ((cells.drop o2).take (n2 * sz)).toArray w := by
      have := run_loadCellsFrom (P := P) (w := w) (b := b) (o := o2) ((cells.drop o2).take (n2 * sz)) 0 #[] (fun j u hj => by
        rw [cell_at hh]
        rw [List.getElem?_take, List.getElem?_drop] at hj
        split at hj
        · simpa using hj
        · cases hj)
      simp only [Builtin.firstCells, loadCells]
      rw [hl2] at this
      rw [this]; simp
    obtain ⟨w', hr, ho, hsz', hk, hbb⟩ := run_storeCells (P := P) (b := b) (o := o1 + n1 * sz) (e := e2) ((cells.drop o2).take (n2 * sz)) 0 w cells hone hh (by rw [hl2]; rw [Nat.add_mul] at h1; omega)
    refine ⟨(), w', ?_, ?_⟩
    · have := run_append_in (P := P) (w := w) (ty := ty) (base := some ⟨b, o1, none⟩) (n1 := n1) (cap := cap1) hut (.inl hut) hinf hsz (by simp [Builtin.lenOf]) hf hroom
      simp only [add_none, hr, Result.andThen_ok] at this
      simp only [execOp, resolve, invoke, builtin, List.map_toArray, List.map_cons, List.map_nil, hm.eval hx, hm.eval hy, Sem.run_bind, Sem.run_pure, Result.andThen_ok, this]
    · exact (Sat.set (hs.perm h3) ho hsz' (by simpa using hbb) hk).perm h4.symm) (fun _ => k)

/-- An operation whose value nobody wants. -/
theorem XL.stepW {o : Oper} {v : Value} (ho : o.dst = none) (hc : wOk ops L o.guard = true)
    (hx : ∀ a w, Mat N L a → Sat cs w → ∃ w', (execOp a.eval o).run P w = .ok (.value v) w' ∧ Sat cs' w')
    (k : XL P N ops Q l L cs') : XL P N ops Q (o :: l) L cs := by
  intro a w hm hs
  obtain ⟨w', hr, hs'⟩ := hx a w hm hs
  refine wpList_step fun K hK => ?_
  rw [if_pos (wOk.wanted hm hc)]
  unfold Oper.wp
  rw [hr, Oper.upon_value, ho]
  exact hK _ _ (k _ _ hm hs')

/-- 'clear(s)'. -/
theorem XL.clW {t : TypeId} {x : Operand} {b o n cap by_ : Nat} {cells zs zz : List Value} {e' : TypeId} (ht : elemI P t = some (e, sz, by_)) (hz : zeroC P e = some zs) (hx : ev L x = some (.slice (some ⟨b, o, none⟩) n cap)) (hn : n ≠ 0)
    [hb : AtB cs b cells e'] (hzz : (Builtin.zeroCells zs.toArray n).toList = zz) (hone : zz.all oneC = true) (hle : o + zz.length ≤ cells.length)
    [hu : UpB cs b cells (setsN cells o zz) cs'] (hc : wOk ops L g = true) (k : XL P N ops Q l L cs') :
    XL P N ops Q (⟨none, .call ⟨.builtin .clear, #[x], #[t]⟩, ty, pos, af, g⟩ :: l) L cs :=
  XL.stepW (v := .tuple #[]) rfl hc (fun a w hm hs => by
    obtain ⟨hut, inf, hinf, hsz, _⟩ := elemI.run ht
    obtain ⟨r, e2, h3, h4⟩ := hu.mem
    have hh := (Sat.cell (hs.perm h3)).2
    obtain ⟨z, hzr, hzc⟩ := zeroC.run hz w
    obtain ⟨w', hr, ho, hsz', hk, hbb⟩ := run_storeCells (P := P) (b := b) (o := o) (e := e2) zz 0 w cells hone hh (by omega)
    refine ⟨w', ?_, (Sat.set (hs.perm h3) ho hsz' (by simpa using hbb) hk).perm h4.symm⟩
    cases n with
    | zero => exact absurd rfl hn
    | succ n =>
      simp only [execOp, resolve, invoke, builtin, List.map_toArray, List.map_cons, List.map_nil, hm.eval hx, Builtin.clear_, Sem.run_bind, Sem.run_pure, Result.andThen_ok, List.getElem?_toArray, List.getElem?_cons_zero, run_underlying hut, hzr, hzc, hzz, hr]) k
end
end Go.Sx

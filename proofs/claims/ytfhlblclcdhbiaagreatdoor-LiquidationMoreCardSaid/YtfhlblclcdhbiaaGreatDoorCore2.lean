/- The abstract machine's quiet operations are sound. -/
import Derived.Test.YtfhlblclcdhbiaaGreatDoorCore1
import Derived.Laws.StructEq
namespace Go.Proofs.YtfhlblclcdhbiaaGreatDoor
open Go
namespace Am
section
variable {P : Program} {B0 W : Nat} {β : Bt} {lam : Lam} {fr : Fr} {h : AH} {w : World} {act : Act} {H : Hint} {draw : Bool} {o : Oper}

theorem isAgg_run {t : TypeId} {b : Bool} (hv : aggT P t = some b) (w : World) : (isAgg t).run P w = .ok b w := by
  unfold aggT at hv
  unfold isAgg
  split at hv
  · rename_i hu; cases hv; simp [run_underlying hu]
  · rename_i hu; cases hv; simp [run_underlying hu]
  · rename_i d hd he hu
    cases hv
    simp only [Sem.run_bind, run_underlying hu, Result.andThen_ok]
    cases d with
    | struct f => exact absurd rfl (hd f)
    | array n e => exact absurd rfl (he n e)
    | _ => rfl
  · cases hv
theorem szT_run {t : TypeId} {n : Nat} (hv : szT P t = some n) (w : World) : (sizeOf t).run P w = .ok n w := by
  unfold szT at hv
  simp only [Option.map_eq_some_iff] at hv
  obtain ⟨i, hi, rfl⟩ := hv
  simp [sizeOf, typeInfo, hi]
theorem varT_cases {t : TypeId} {n : Nat} {g : Bool} (hv : varT P t = some (n, g)) : aggT P t = some g ∧ (g = true → szT P t = some n) ∧ (g = false → n = 1) := by
  unfold varT at hv
  split at hv
  · rename_i ha
    split at hv
    · rename_i m hm; cases hv; exact ⟨ha, fun _ => hm, (fun h => by cases h)⟩
    · cases hv
  · rename_i ha; cases hv; exact ⟨ha, (fun h => by cases h), fun _ => rfl⟩
  · cases hv
theorem loadVar_run {t : TypeId} {n : Nat} {g : Bool} (hv : varT P t = some (n, g)) {b off : Nat} {us : List Value} (hl : us.length = n)
    (hc : ∀ (i : Nat) u, us[i]? = some u → w.cell? ⟨b, off + i, none⟩ = some u) :
    (loadVar t ⟨b, off, none⟩).run P w = .ok (if g then .agg us.toArray else us.headD undef) w := by
  obtain ⟨ha, hs, h1⟩ := varT_cases hv
  unfold loadVar
  simp only [Sem.run_bind, isAgg_run ha, Result.andThen_ok]
  cases g with
  | true =>
    have := run_cells (P := P) hc
    rw [hl] at this
    simp [szT_run (hs rfl), this]
  | false =>
    have := h1 rfl
    subst this
    match us, hl with
    | [u], _ =>
      have hx := hc 0 u rfl
      simp only [Nat.add_zero] at hx
      simp [run_load, hx]
theorem loadAt_run {t : TypeId} {n : Nat} {g : Bool} (hv : varT P t = some (n, g)) {b off : Nat} {us : List Value} (hl : us.length = n)
    (hc : ∀ (i : Nat) u, us[i]? = some u → w.cell? ⟨b, off + i, none⟩ = some u) :
    (Instr.loadAt t (.pointer (some ⟨b, off, none⟩))).run P w = .ok (if g then .agg us.toArray else us.headD undef) w := by
  simp [Instr.loadAt, Instr.sureAddr, loadVar_run hv hl hc]

theorem blk_of {k g b : Nat} (h : lam[k]? = some (some (g, b))) : blk lam k = some b := by simp [blk, h]
theorem box_cells {bx : List (Nat × List Value)} (hb : BxR W β lam bx w) {k g gb b : Nat} (hl : lam[k]? = some (some (g, b))) {cs : List Value} (hk : bx[k]? = some (gb, cs)) {off n : Nat} {l : List Value} (hs : sub cs off n = some l) :
    gb = g ∧ l.length = n ∧ ∃ us : List Value, us.length = n ∧ A2 (CR β) l us ∧ ∀ (i : Nat) u, us[i]? = some u → w.cell? ⟨b, off + i, none⟩ = some u := by
  obtain ⟨_, g2, cs', c, t, hl', hk', hheap, ha⟩ := hb.box k b (blk_of hl)
  rw [hl] at hl'
  cases hl'
  rw [hk] at hk'
  cases hk'
  refine ⟨rfl, ?_⟩
  unfold sub at hs
  split at hs
  · rename_i hle
    cases hs
    have hlen := ha.len
    refine ⟨by simp; omega, (c.toList.drop off).take n, by simp at hlen ⊢; omega, (ha.drop off).take n, fun i u hi => ?_⟩
    have hin : i < n := by have := (List.getElem?_eq_some_iff.mp hi).1; simp at this; omega
    rw [List.getElem?_take_of_lt hin, List.getElem?_drop] at hi
    simp only [World.cell?, hheap]
    simpa using hi
  · cases hs

theorem part_run {t : TypeId} {n : Nat} {g : Bool} (hv : varT P t = some (n, g)) {cs : Array Value} {off : Nat} (hle : off + n ≤ cs.size) :
    (part t cs off).run P w = .ok (if g then .agg ((cs.toList.drop off).take n).toArray else ((cs.toList.drop off).take n).headD undef) w := by
  obtain ⟨ha, hs, h1⟩ := varT_cases hv
  unfold part
  simp only [Sem.run_bind, isAgg_run ha, Result.andThen_ok]
  cases g with
  | true =>
    simp only [Sem.run_bind, szT_run (hs rfl), Result.andThen_ok, if_true, Sem.run_pure]
    congr 2
    apply Array.ext'
    simp
  | false =>
    have := h1 rfl
    subst this
    have hlt : off < cs.size := by omega
    simp [Array.getElem?_eq_getElem hlt, List.drop_eq_getElem_cons (l := cs.toList) (i := off) (by simpa using hlt)]

theorem binV_run {op : BinOp} {xt : TypeId} {x y : Operand} {a b r : Value} (hv : binV op a b = some r) :
    (do eqGuard op xt x y a b; binOp op xt a b : Sem Value).run P w = .ok r w ∧ BR β r r := by
  have hg : (eqGuard op xt x y a b).run P w = .ok () w := by
    unfold binV at hv
    split at hv
    · cases op <;> simp [eqGuard]
    · cases op <;> simp [eqGuard]
    · cases hv
  simp only [Sem.run_bind, hg, Result.andThen_ok]
  unfold binV at hv
  split at hv
  · rename_i k a k' b
    cases op <;> simp only at hv <;> (try split at hv) <;> (try split at hv) <;> first
      | (cases hv; done)
      | (simp only [Option.some.injEq] at hv
         subst hv
         refine ⟨?_, by constructor⟩
         simp_all [binOp, Op.intArith, Op.intDiv, Op.intBits, Op.intCmp, Op.shift]
         try (intro; omega))
  · cases op <;> simp only at hv <;> (try split at hv) <;> first
      | (cases hv; done)
      | (simp only [Option.some.injEq] at hv
         subst hv
         refine ⟨?_, by constructor⟩
         simp [binOp, Op.stringOp, IntKind.max, IntKind.signed, IntKind.bits]
         try omega)
  · cases hv
end
end Am
end Go.Proofs.YtfhlblclcdhbiaaGreatDoor
namespace Go.Proofs.YtfhlblclcdhbiaaGreatDoor
open Go
namespace Am
section
variable {P : Program} {w : World}
theorem eqL_append : ∀ {s s' : List Nat} {a b : List Value} {r : Bool}, eqL (s ++ s') a b = some r →
    ∃ r1 r2, eqL s (a.take s.length) (b.take s.length) = some r1 ∧ eqL s' (a.drop s.length) (b.drop s.length) = some r2 ∧ r = (r1 && r2)
  | [], s', a, b, r, h => ⟨true, r, by simp [eqL], by simpa using h, by simp⟩
  | k :: s, s', [], _, r, h => by simp [eqL] at h
  | k :: s, s', _ :: _, [], r, h => by simp [eqL] at h
  | k :: s, s', x :: a, y :: b, r, h => by
    simp only [List.cons_append, eqL] at h
    split at h
    · rename_i e r' he hr'
      cases h
      obtain ⟨r1, r2, h1, h2, rfl⟩ := eqL_append hr'
      exact ⟨e && r1, r2, by simp [eqL, he, h1], by simpa using h2, by simp [Bool.and_assoc]⟩
    · cases h
theorem eqL_len : ∀ {s : List Nat} {a b : List Value} {r : Bool}, eqL s a b = some r → a.length = s.length ∧ b.length = s.length
  | [], [], [], _, _ => ⟨rfl, rfl⟩
  | [], [], _ :: _, _, h => by simp [eqL] at h
  | [], _ :: _, _, _, h => by simp [eqL] at h
  | _ :: _, [], _, _, h => by simp [eqL] at h
  | _ :: _, _ :: _, [], _, h => by simp [eqL] at h
  | k :: s, x :: a, y :: b, _, h => by
    simp only [eqL] at h
    split at h
    · rename_i hr'; have := eqL_len hr'; simp [this]
    · cases h
def ofCells (P : Program) (t : TypeId) (cs : List Value) : Value := match aggT P t with
  | some true => .agg cs.toArray
  | _ => cs.headD undef
theorem info_of {t : TypeId} {u : TypeDesc} (hu : P.underlying t = some u) : ∃ i, P.info? t = some i := by
  unfold Program.underlying at hu
  cases hp : P.info? t with
  | none => simp [hp] at hu
  | some i => exact ⟨i, rfl⟩
theorem sig_var {d : Nat} {t : TypeId} {s : List Nat} (h : sigT P d t = some s) : ∃ g, varT P t = some (P.cellsOf t, g) ∧ ∀ cs, ofCells P t cs = if g then .agg cs.toArray else cs.headD undef := by
  cases d with
  | zero => simp [sigT] at h
  | succ d =>
    simp only [sigT] at h
    split at h
    · rename_i hu; split at h
      · refine ⟨false, ?_, ?_⟩ <;> simp_all [varT, aggT, ofCells]
      · cases h
    · rename_i hu; split at h
      · refine ⟨false, ?_, ?_⟩ <;> simp_all [varT, aggT, ofCells]
      · cases h
    · rename_i hu; split at h
      · refine ⟨false, ?_, ?_⟩ <;> simp_all [varT, aggT, ofCells]
      · cases h
    · rename_i fs hu
      obtain ⟨i, hi⟩ := info_of hu
      refine ⟨true, ?_, ?_⟩ <;> simp [varT, aggT, ofCells, hu, szT, hi, Program.cellsOf]
    · cases h
theorem sigFs_len {d : Nat} (ih : ∀ t s, sigT P d t = some s → s.length = P.cellsOf t) : ∀ (fs : List Field) (off n : Nat) (s : List Nat), sigFs P (sigT P d) fs off n = some s → off + s.length = n
  | [], off, n, s, h => by
    simp only [sigFs] at h
    split at h
    · cases h; simpa
    · cases h
  | f :: r, off, n, s, h => by
    simp only [sigFs] at h
    split at h
    · split at h
      · rename_i a b ha hb
        cases h
        have := sigFs_len ih r _ _ _ hb
        have := ih _ _ ha
        simp
        omega
      · cases h
    · cases h
theorem sig_len : ∀ (d : Nat) (t : TypeId) (s : List Nat), sigT P d t = some s → s.length = P.cellsOf t
  | 0, _, _, h => by simp [sigT] at h
  | d + 1, t, s, h => by
    simp only [sigT] at h
    split at h
    · split at h
      · rename_i hc; cases h; simp [hc]
      · cases h
    · split at h
      · rename_i hc; cases h; simp [hc]
      · cases h
    · split at h
      · rename_i hc; cases h; simp [hc]
      · cases h
    · split at h
      · cases h
      · have := sigFs_len (sig_len d) _ _ _ _ h
        omega
    · cases h
theorem one_cell {xs : List Value} (h : xs.length = 1) : ∃ x, xs = [x] := by
  match xs, h with
  | [x], _ => exact ⟨x, rfl⟩
theorem eqFs_run {d dd : Nat} (ih : ∀ (t : TypeId) (s : List Nat), sigT P d t = some s → ∀ (xs ys : List Value) (r : Bool), eqL s xs ys = some r →
    (Op.equalIn dd t (ofCells P t xs) (ofCells P t ys)).run P w = .ok r w) : ∀ (fs : List Field) (off n : Nat) (s : List Nat), sigFs P (sigT P d) fs off n = some s → ∀ (xs ys : List Value) (r : Bool), xs.length = n → ys.length = n →
    eqL s (xs.drop off) (ys.drop off) = some r → (Op.eqFields dd xs.toArray ys.toArray fs).run P w = .ok r w
  | [], off, n, s, h, xs, ys, r, hx, hy, he => by
    simp only [sigFs] at h
    split at h
    · cases h
      rename_i ho
      subst ho
      rw [List.drop_of_length_le (by omega), List.drop_of_length_le (by omega)] at he
      cases he
      simp [Op.eqFields]
    · cases h
  | f :: fs, off, n, s, h, xs, ys, r, hx, hy, he => by
    have hn := sigFs_len (sig_len d) _ _ _ _ h
    simp only [sigFs] at h
    split at h
    · rename_i hf
      split at h
      · rename_i a b ha hb
        cases h
        obtain ⟨r1, r2, h1, h2, rfl⟩ := eqL_append he
        have hal := sig_len _ _ _ ha
        obtain ⟨g, hg, hof⟩ := sig_var ha
        simp at hn
        have p1 := part_run (w := w) hg (cs := xs.toArray) (off := f.offset) (by simp; omega)
        have p2 := part_run (w := w) hg (cs := ys.toArray) (off := f.offset) (by simp; omega)
        simp only [← hof] at p1 p2
        rw [hf.2] at p1 p2
        rw [hal] at h1 h2
        have e1 := ih f.type a ha _ _ _ h1
        rw [List.drop_drop, List.drop_drop] at h2
        have e2 := eqFs_run ih fs (off + P.cellsOf f.type) n b hb xs ys r2 hx hy h2
        simp only [Op.eqFields, hf.1, ne_eq, not_false_eq_true, if_true, Sem.run_bind, hf.2, p1, p2, Result.andThen_ok, e1]
        cases r1 with
        | true => simpa using e2
        | false => simp
      · cases h
    · cases h
theorem eqIn_run : ∀ (d dd : Nat) (t : TypeId) (s : List Nat), sigT P d t = some s → d ≤ dd → ∀ (xs ys : List Value) (r : Bool), eqL s xs ys = some r →
    (Op.equalIn dd t (ofCells P t xs) (ofCells P t ys)).run P w = .ok r w
  | 0, _, _, _, h, _, _, _, _, _ => by simp [sigT] at h
  | d + 1, 0, _, _, _, hd, _, _, _, _ => by omega
  | d + 1, dd + 1, t, s, h, hd, xs, ys, r, he => by
    obtain ⟨hx, hy⟩ := eqL_len he
    have hl := sig_len _ _ _ h
    simp only [sigT] at h
    split at h
    · rename_i hu
      split at h
      · cases h
        obtain ⟨x, rfl⟩ := one_cell hx
        obtain ⟨y, rfl⟩ := one_cell hy
        simp only [eqL] at he
        split at he
        · rename_i e r' hc hr
          cases hr
          cases he
          unfold eqC at hc
          split at hc <;> first
            | (rename_i h0; cases h0; done)
            | (cases hc
               simpa [ofCells, aggT, hu] using run_equalIn_bool' (P := P) w dd t _ _ hu)
            | cases hc
        · cases he
      · cases h
    · rename_i hu
      split at h
      · cases h
        obtain ⟨x, rfl⟩ := one_cell hx
        obtain ⟨y, rfl⟩ := one_cell hy
        simp only [eqL] at he
        split at he
        · rename_i e r' hc hr
          cases hr
          cases he
          unfold eqC at hc
          split at hc <;> first
            | (rename_i h0; cases h0; done)
            | (split at hc
               · rename_i hk
                 subst hk
                 cases hc
                 simpa [ofCells, aggT, hu] using run_equalIn_int (P := P) w dd t _ _ _ _ hu
               · cases hc)
            | cases hc
        · cases he
      · cases h
    · rename_i hu
      split at h
      · cases h
        obtain ⟨x, rfl⟩ := one_cell hx
        obtain ⟨y, rfl⟩ := one_cell hy
        simp only [eqL] at he
        split at he
        · rename_i e r' hc hr
          cases hr
          cases he
          unfold eqC at hc
          split at hc <;> first
            | (rename_i h0; cases h0; done)
            | (cases hc
               simpa [ofCells, aggT, hu] using run_equalIn_string (P := P) w dd t _ _ hu)
            | cases hc
        · cases he
      · cases h
    · rename_i fs hu
      split at h
      · cases h
      · rename_i hp
        have hfs : P.fieldsOf t = fs := by simp [Program.fieldsOf, hu]
        have := run_equalIn_struct (P := P) w dd t xs.toArray ys.toArray (by rw [hfs]; exact hu) (by simpa using hp)
        simp only [ofCells, aggT, hu, this, hfs]
        exact eqFs_run (fun t s h => eqIn_run d dd t s h (by omega)) fs.toList 0 (P.cellsOf t) s h xs ys r (by omega) (by omega) (by simpa using he)
    · cases h
def Neg (op : BinOp) (g : Bool) : Prop := (op = .eql ∧ g = false) ∨ (op = .neq ∧ g = true)
theorem eq_gives {op : BinOp} {g : Bool} (ho : Neg op g) {t : TypeId} {x y : Operand} {u v : Value} {r : Bool} (hg : (eqGuard op t x y u v).run P w = .ok () w)
    (he : (Op.equal t u v).run P w = .ok r w) (h1 : binOp .eql t u v = (do pure (.bool (← Op.equal t u v)))) (h2 : binOp .neq t u v = (do pure (.bool (!(← Op.equal t u v))))) :
    (do eqGuard op t x y u v; binOp op t u v : Sem Value).run P w = .ok (.bool (if g then !r else r)) w := by
  rcases ho with ⟨rfl, rfl⟩ | ⟨rfl, rfl⟩
  · simp [hg, h1, he]
  · simp [hg, h2, he]
theorem eqs_run {op : BinOp} {g : Bool} {t : TypeId} {s : List Nat} {x y : Operand} (ho : Neg op g) (hm : P.eqGuardType P.depth t = false) (hs : sigT P 100 t = some s) (hag : aggT P t = some true) {xs ys : Array Value} {r : Bool} (he : eqL s xs.toList ys.toList = some r) :
    (do eqGuard op t x y (.agg xs) (.agg ys); binOp op t (.agg xs) (.agg ys) : Sem Value).run P w = .ok (.bool (if g then !r else r)) w := by
  have e := eqIn_run (P := P) (w := w) 100 Op.maxDepth t s hs (by decide) _ _ _ he
  simp only [ofCells, hag, Array.toArray_toList] at e
  exact eq_gives ho (run_eqGuard_agg w op t x y xs ys hm) e rfl rfl
end
end Am
end Go.Proofs.YtfhlblclcdhbiaaGreatDoor
namespace Go.Proofs.YtfhlblclcdhbiaaGreatDoor
open Go
set_option linter.unusedVariables false
set_option linter.unusedSimpArgs false
namespace Am
section
variable {P : Program} {B0 W : Nat} {β : Bt} {lam : Lam} {fr : Fr} {h : AH} {w : World} {act : Act} {H : Hint} {draw : Bool} {o : Oper}

theorem bnd_run {v u : Value} (hr : VR β v u) {y y' n : Nat} (hb : bnd v y = some n) (hy : y ≤ y') (code : BoundsCode) : (Instr.sliceBound u y' code).run P w = .ok n w ∧ n ≤ y := by
  unfold bnd at hb
  split at hb
  · have := vr_int hr
    subst this
    split at hb
    · rename_i k i hi
      cases hb
      have h2 : 0 ≤ i ∧ i ≤ (y' : Int) := by omega
      simp [Instr.sliceBound, asIntOf, h2]
      omega
    · cases hb
  · cases hb

/-- both bounds -/
theorem bnds_run {lo hi mx : Option Value} {lo' hi' mx' : Option Value} (hl : (lo = none ∧ lo' = none) ∨ ∃ u u', lo = some u ∧ lo' = some u' ∧ VR β u u')
    (hh : (hi = none ∧ hi' = none) ∨ ∃ u u', hi = some u ∧ hi' = some u' ∧ VR β u u') (hm : (mx = none ∧ mx' = none) ∨ ∃ u u', mx = some u ∧ mx' = some u' ∧ VR β u u')
    {n c c' m a b : Nat} (hc : c ≤ c') (hmx : capM mx c = some m) (hb : bnds lo hi n m = some (a, b)) (hmh : mx.isSome = true → hi.isSome = true) (isSlice : Bool) :
    ∃ m', (Instr.sliceBounds isSlice n c' lo' hi' mx').run P w = .ok (a, b, m') w ∧ (mx.isSome = true → m' = m) ∧ (mx = none → m' = c' ∧ m = c) ∧ a ≤ b ∧ (hi = none → b = n) ∧ (hi.isSome = true → b ≤ m) := by
  unfold bnds at hb
  unfold Instr.sliceBounds
  rcases hm with ⟨rfl, rfl⟩ | ⟨um, um', rfl, rfl, hum⟩
  · simp only [capM, Option.some.injEq] at hmx
    subst hmx
    refine ⟨c', ?_, by simp, fun _ => ⟨rfl, rfl⟩, ?_⟩
    · rcases hh with ⟨rfl, rfl⟩ | ⟨uh, uh', rfl, rfl, huh⟩
      · simp only at hb
        rcases hl with ⟨rfl, rfl⟩ | ⟨ul, ul', rfl, rfl, hul⟩
        · simp only [Option.some.injEq, Prod.mk.injEq] at hb
          obtain ⟨rfl, rfl⟩ := hb
          simp
        · simp only at hb
          split at hb
          · cases hb
          · rename_i l hl'
            simp only [Option.some.injEq, Prod.mk.injEq] at hb
            obtain ⟨rfl, rfl⟩ := hb
            simp [(bnd_run (P := P) (w := w) hul hl' (Nat.le_refl _) _).1]
      · simp only at hb
        split at hb
        · cases hb
        · rename_i h' hh'
          rcases hl with ⟨rfl, rfl⟩ | ⟨ul, ul', rfl, rfl, hul⟩
          · simp only [Option.some.injEq, Prod.mk.injEq] at hb
            obtain ⟨rfl, rfl⟩ := hb
            simp [(bnd_run (P := P) (w := w) huh hh' hc _).1]
          · simp only at hb
            split at hb
            · cases hb
            · rename_i l hl'
              simp only [Option.some.injEq, Prod.mk.injEq] at hb
              obtain ⟨rfl, rfl⟩ := hb
              simp [(bnd_run (P := P) (w := w) huh hh' hc _).1, (bnd_run (P := P) (w := w) hul hl' (Nat.le_refl _) _).1]
    · rcases hh with ⟨rfl, rfl⟩ | ⟨uh, uh', rfl, rfl, huh⟩
      · simp only at hb
        rcases hl with ⟨rfl, rfl⟩ | ⟨ul, ul', rfl, rfl, hul⟩
        · simp only [Option.some.injEq, Prod.mk.injEq] at hb
          obtain ⟨rfl, rfl⟩ := hb
          simp
        · simp only at hb
          split at hb
          · cases hb
          · rename_i l hl'
            simp only [Option.some.injEq, Prod.mk.injEq] at hb
            obtain ⟨rfl, rfl⟩ := hb
            have := (bnd_run (P := P) (w := w) hul hl' (Nat.le_refl _) .index).2
            simpa
      · simp only at hb
        split at hb
        · cases hb
        · rename_i h' hh'
          have hle := (bnd_run (P := P) (w := w) huh hh' (Nat.le_refl _) .index).2
          rcases hl with ⟨rfl, rfl⟩ | ⟨ul, ul', rfl, rfl, hul⟩
          · simp only [Option.some.injEq, Prod.mk.injEq] at hb
            obtain ⟨rfl, rfl⟩ := hb
            simpa using hle
          · simp only at hb
            split at hb
            · cases hb
            · rename_i l hl'
              simp only [Option.some.injEq, Prod.mk.injEq] at hb
              obtain ⟨rfl, rfl⟩ := hb
              have := (bnd_run (P := P) (w := w) hul hl' (Nat.le_refl _) .index).2
              simp
              omega
  · simp only [capM] at hmx
    have hmr := bnd_run (P := P) (w := w) hum hmx hc
    refine ⟨m, ?_, fun _ => rfl, by simp, ?_⟩
    · rcases hh with ⟨rfl, rfl⟩ | ⟨uh, uh', rfl, rfl, huh⟩
      · simp at hmh
      · simp only at hb
        split at hb
        · cases hb
        · rename_i h' hh'
          rcases hl with ⟨rfl, rfl⟩ | ⟨ul, ul', rfl, rfl, hul⟩
          · simp only [Option.some.injEq, Prod.mk.injEq] at hb
            obtain ⟨rfl, rfl⟩ := hb
            simp [(hmr _).1, (bnd_run (P := P) (w := w) huh hh' (Nat.le_refl _) _).1]
          · simp only at hb
            split at hb
            · cases hb
            · rename_i l hl'
              simp only [Option.some.injEq, Prod.mk.injEq] at hb
              obtain ⟨rfl, rfl⟩ := hb
              simp [(hmr _).1, (bnd_run (P := P) (w := w) huh hh' (Nat.le_refl _) _).1, (bnd_run (P := P) (w := w) hul hl' (Nat.le_refl _) _).1]
    · rcases hh with ⟨rfl, rfl⟩ | ⟨uh, uh', rfl, rfl, huh⟩
      · simp at hmh
      · simp only at hb
        split at hb
        · cases hb
        · rename_i h' hh'
          have hle := (bnd_run (P := P) (w := w) huh hh' (Nat.le_refl _) .index).2
          rcases hl with ⟨rfl, rfl⟩ | ⟨ul, ul', rfl, rfl, hul⟩
          · simp only [Option.some.injEq, Prod.mk.injEq] at hb
            obtain ⟨rfl, rfl⟩ := hb
            simpa using hle
          · simp only at hb
            split at hb
            · cases hb
            · rename_i l hl'
              simp only [Option.some.injEq, Prod.mk.injEq] at hb
              obtain ⟨rfl, rfl⟩ := hb
              have := (bnd_run (P := P) (w := w) hul hl' (Nat.le_refl _) .index).2
              simp
              omega

theorem nums8_run : ∀ {cs us : List Value} {l : List UInt8}, A2 (CR β) cs us → nums8 cs = some l → ∀ acc : ByteArray,
    (forIn us acc (fun (c : Value) (s : ByteArray) => (match c with | .int .u8 n => pure (ForInStep.yield (s.push (UInt8.ofNat n.toNat))) | _ => (stuck "bytesToString: byte expected" >>= fun (_ : PUnit) => pure (ForInStep.yield s)) : Sem (ForInStep ByteArray)))).run P w = .ok ⟨acc.data ++ l.toArray⟩ w
  | [], _, l, .nil, h => by
    simp only [nums8, Option.some.injEq] at h
    subst h
    exact fun acc => by simp
  | c :: cs, _, l, .cons (b := u) (y := us) hc ht, h => by
    unfold nums8 at h
    split at h
    · rename_i heq; cases heq
    · rename_i n r heq
      cases heq
      split at h
      · rename_i l' hl'
        cases h
        have h2 := nums8_run ht hl'
        have : u = .int .u8 n := by cases hc with | base hc => cases hc; rfl
        subst this
        intro acc
        simp only [List.forIn_cons, Sem.run_bind, Sem.run_pure, Result.andThen_ok, h2]
        simp [ByteArray.push]
      · cases h
    · cases h
theorem b2s_run {b off n c : Nat} {cs us : List Value} {l : List UInt8} (hl : us.length = n) (hc : ∀ (i : Nat) u, us[i]? = some u → w.cell? ⟨b, off + i, none⟩ = some u) (ha : A2 (CR β) cs us) (h8 : nums8 cs = some l) :
    (Conv.bytesToString (.slice (some ⟨b, off, none⟩) n c)).run P w = .ok (.string ⟨l.toArray⟩) w := by
  have h1 := run_cells (P := P) hc
  rw [hl] at h1
  have h2 := nums8_run (P := P) (w := w) ha h8 ByteArray.empty
  simp only [Conv.bytesToString, Sem.run_bind, h1, Result.andThen_ok]
  rw [← Array.forIn_toList]
  have e : (⟨ByteArray.empty.data ++ l.toArray⟩ : ByteArray) = ⟨l.toArray⟩ := by
    congr 1
    apply Array.ext'
    simp [ByteArray.empty, ByteArray.emptyWithCapacity]
    rfl
  rw [e] at h2
  simp only [List.toList_toArray]
  exact congrArg (fun r : Result ByteArray => r.andThen fun a w' => Sem.run P (pure (Value.string a)) w') h2
end
end Am
end Go.Proofs.YtfhlblclcdhbiaaGreatDoor
namespace Go.Proofs.YtfhlblclcdhbiaaGreatDoor
open Go
set_option linter.unusedVariables false
set_option linter.unusedSimpArgs false
namespace Am
section
variable {P : Program} {B0 W : Nat} {β : Bt} {lam : Lam} {fr : Fr} {h : AH} {w : World} {act : Act} {H : Hint} {draw : Bool} {o : Oper}

/-- what is known where an operation stands -/
structure At (P : Program) (B0 W : Nat) (β : Bt) (lam : Lam) (fr : Fr) (h : AH) (w : World) (act : Act) : Prop where
  f : FrR β lam fr act.tmps
  b : BxR W β lam fr.bx w
  r : RH B0 β h w
def Gives (P : Program) (β : Bt) (lam : Lam) (w : World) (s : Sem Next) (v : TV) : Prop := ∃ u, s.run P w = .ok (.value u) w ∧ TR β lam v u

theorem gives_v {s : Sem Value} {v : Value} {u : Value} (h : s.run P w = .ok u w) (hr : VR β v u) : Gives P β lam w (do pure (.value (← s))) (.v v) :=
  ⟨u, by simp [h], .v hr⟩

theorem q_load (ha : At P B0 W β lam fr h w act) {t : TypeId} {x : Operand} {n : Nat} {g : Bool} {y : X} (hv : varT P t = some (n, g)) (hx : cX x = some y) {v : TV} (hq : qO (.load n g y) fr h = some v) :
    Gives P β lam w (do pure (.value (← Instr.loadAt t (act.eval x)))) v := by
  simp only [qO] at hq
  split at hq
  · rename_i o off had
    split at hq
    · rename_i cs hcs
      split at hq
      · rename_i u hu
        cases hq
        obtain ⟨e, he, hev⟩ := ad_sound ha.f hx had
        obtain ⟨hl, us, hul, h2, hc⟩ := rd_cells ha.r he hcs
        have := loadAt_run (P := P) hv hul hc
        rw [hev]
        exact gives_v this (.w (ag_w h2 hu).1)
      · cases hq
    · cases hq
  · cases hq
theorem q_lload (ha : At P B0 W β lam fr h w act) {t : TypeId} {x : Operand} {n : Nat} {g : Bool} {y : X} (hv : varT P t = some (n, g)) (hx : cX x = some y) {v : TV} (hq : qO (.lload n g y) fr h = some v) :
    Gives P β lam w (do pure (.value (← Instr.loadAt t (act.eval x)))) v := by
  simp only [qO] at hq
  split at hq
  · rename_i k g1 off had
    split at hq
    · rename_i gb bs hbs
      split at hq
      · rename_i hgb
        split at hq
        · rename_i cs hcs
          split at hq
          · rename_i u hu
            cases hq
            obtain ⟨g2, b, b', hb, hle, hbb, hev⟩ := ad_sound ha.f hx had
            obtain ⟨hg, hl, us, hul, h2, hc⟩ := box_cells ha.b hb hbs hcs
            have := hbb (hgb.trans hg)
            subst this
            have := loadAt_run (P := P) hv hul hc
            rw [hev]
            exact gives_v this (.w (ag_w h2 hu).1)
          · cases hq
        · cases hq
      · cases hq
    · cases hq
  · cases hq
abbrev BinS (op : BinOp) (t : TypeId) (x y : Operand) (u v : Value) : Sem Next := do pure (.value (← (do eqGuard op t x y u v; binOp op t u v)))
theorem q_bin0 (ha : At P B0 W β lam fr h w act) {op : BinOp} {t : TypeId} {x y : Operand} {a b : X} (hx : cX x = some a) (hy : cX y = some b) {v : TV} (hq : qO (.bin op a b) fr h = some v) :
    Gives P β lam w (BinS op t x y (act.eval x) (act.eval y)) v := by
  have hq : (match vl fr a, vl fr b with | some a, some b => (match binV op a b with | some r => some (TV.v r) | none => none) | _, _ => none) = some v := hq
  split at hq
  · rename_i u v' hu hv
    split at hq
    · rename_i r hr
      cases hq
      have h1 := vl_sound ha.f hx hu
      have h2 := vl_sound ha.f hy hv
      have h3 : act.eval x = u ∧ act.eval y = v' := by
        unfold binV at hr
        split at hr
        · exact ⟨vr_int h1, vr_int h2⟩
        · exact ⟨vr_string h1, vr_string h2⟩
        · cases hr
      obtain ⟨hrun, hbr⟩ := binV_run (P := P) (β := β) (w := w) (xt := t) (x := x) (y := y) hr
      rw [h3.1, h3.2]
      exact gives_v hrun (.base hbr)
    · cases hq
  · cases hq
theorem q_beq (ha : At P B0 W β lam fr h w act) {op : BinOp} {g : Bool} (ho : Neg op g) {t : TypeId} (hu : P.underlying t = some .bool) {x y : Operand} {a b : X} (hx : cX x = some a) (hy : cX y = some b) {v : TV} (hq : qO (.beq g a b) fr h = some v) :
    Gives P β lam w (BinS op t x y (act.eval x) (act.eval y)) v := by
  have hq : (match vl fr a, vl fr b with | some a, some b => (match beqV g a b with | some r => some (TV.v r) | none => none) | _, _ => none) = some v := hq
  split at hq
  · rename_i u v' hu' hv
    split at hq
    · rename_i r hr
      cases hq
      have h1 := vl_sound ha.f hx hu'
      have h2 := vl_sound ha.f hy hv
      unfold beqV at hr
      split at hr
      · cases hr
        rw [vr_bool h1, vr_bool h2]
        exact gives_v (eq_gives ho (by rcases ho with ⟨rfl, _⟩ | ⟨rfl, _⟩ <;> simp [eqGuard]) (run_equalIn_bool' (P := P) w 9999 t _ _ hu) rfl rfl) (.base (.bool _))
      · cases hr
    · cases hq
  · cases hq
theorem q_snil (ha : At P B0 W β lam fr h w act) {op : BinOp} {g : Bool} (ho : Neg op g) {t el : TypeId} (hu : P.underlying t = some (.slice el)) {x y : Operand} {a b : X} (hx : cX x = some a) (hy : cX y = some b) {v : TV} (hq : qO (.snil g a b) fr h = some v) :
    Gives P β lam w (BinS op t x y (act.eval x) (act.eval y)) v := by
  have hq : (match vl fr a, vl fr b with | some a, some b => (match snilV g a b with | some r => some (TV.v r) | none => none) | _, _ => none) = some v := hq
  have eqn : ∀ (p q : Option Addr) (n c n' c' : Nat), (p = none ∨ q = none) → (Op.equal t (.slice p n c) (.slice q n' c')).run P w = .ok (p.isNone && q.isNone) w := by
    intro p q n c n' c' hpq
    show (Op.equalIn (9999 + 1) t (.slice p n c) (.slice q n' c')).run P w = _
    generalize (9999 : Nat) = d
    cases p <;> cases q <;> simp [Op.equalIn, run_underlying hu] at hpq ⊢
  have run : ∀ (p q : Option Addr) (n c n' c' : Nat), (p = none ∨ q = none) → (do eqGuard op t x y (.slice p n c) (.slice q n' c'); binOp op t (.slice p n c) (.slice q n' c') : Sem Value).run P w = .ok (.bool (if g then !(p.isNone && q.isNone) else (p.isNone && q.isNone))) w := by
    intro p q n c n' c' hpq
    exact eq_gives ho (by rcases ho with ⟨rfl, _⟩ | ⟨rfl, _⟩ <;> simp [eqGuard]) (eqn p q n c n' c' hpq) rfl rfl
  split at hq
  · rename_i u v' hu' hv
    split at hq
    · rename_i r hr
      cases hq
      have h1 := vl_sound ha.f hx hu'
      have h2 := vl_sound ha.f hy hv
      unfold snilV at hr
      split at hr
      · cases hr
        rename_i q _ _
        obtain ⟨_, _, e1⟩ := vr_snil h1
        rw [e1]
        cases q with
        | none =>
          obtain ⟨_, _, e2⟩ := vr_snil h2
          rw [e2]
          exact gives_v (run _ _ _ _ _ _ (.inl rfl)) (by simp only [Option.isNone_none, Bool.and_self]; exact .base (.bool _))
        | some q =>
          obtain ⟨_, _, _, _, _, e2, _⟩ := vr_slice h2
          rw [e2]
          exact gives_v (run _ _ _ _ _ _ (.inl rfl)) (by simp only [Option.isNone_none, Option.isNone_some, Bool.and_false]; exact .base (.bool _))
      · cases hr
        obtain ⟨_, _, _, _, _, e1, _⟩ := vr_slice h1
        obtain ⟨_, _, e2⟩ := vr_snil h2
        rw [e1, e2]
        exact gives_v (run _ _ _ _ _ _ (.inr rfl)) (by simp only [Option.isNone_none, Option.isNone_some, Bool.false_and]; cases g <;> exact .base (.bool _))
      · cases hr
    · cases hq
  · cases hq
theorem eqL_rel : ∀ {s : List Nat} {x y x' y' : List Value} {r : Bool}, eqL s x y = some r → A2 (CR β) x x' → A2 (CR β) y y' → eqL s x' y' = some r
  | [], [], [], _, _, _, h, .nil, .nil => h
  | [], [], _ :: _, _, _, _, h, _, _ => by simp [eqL] at h
  | [], _ :: _, _, _, _, _, h, _, _ => by simp [eqL] at h
  | _ :: _, [], _, _, _, _, h, _, _ => by simp [eqL] at h
  | _ :: _, _ :: _, [], _, _, _, h, _, _ => by simp [eqL] at h
  | k :: s, a :: x, b :: y, _, _, r, h, .cons ha hx, .cons hb hy => by
    simp only [eqL] at h
    split at h
    · rename_i e r' he hr
      cases h
      have h3 := eqL_rel hr hx hy
      have ha' := VR.w (.cell ha)
      have hb' := VR.w (.cell hb)
      unfold eqC at he
      split at he
      · have e1 := vr_int ha'; have e2 := vr_int hb'; subst e1; subst e2; simp [eqL, h3, eqC, he]
      · have e1 := vr_bool ha'; have e2 := vr_bool hb'; subst e1; subst e2; cases he; simp [eqL, h3, eqC]
      · have e1 := vr_string ha'; have e2 := vr_string hb'; subst e1; subst e2; cases he; simp [eqL, h3, eqC]
      · cases he
    · cases h
theorem q_eqs (ha : At P B0 W β lam fr h w act) {op : BinOp} {g : Bool} (ho : Neg op g) {t : TypeId} {s : List Nat} (hm : P.eqGuardType P.depth t = false) (hs : sigT P 100 t = some s) (hag : aggT P t = some true) {x y : Operand} {a b : X} (hx : cX x = some a) (hy : cX y = some b) {v : TV} (hq : qO (.eqs g s a b) fr h = some v) :
    Gives P β lam w (BinS op t x y (act.eval x) (act.eval y)) v := by
  have hq : (match vl fr a, vl fr b with | some (.agg a), some (.agg b) => (match eqL s a.toList b.toList with | some r => some (TV.v (.bool (if g then !r else r))) | none => none) | _, _ => none) = some v := hq
  split at hq
  · rename_i xs ys hu' hv
    split at hq
    · rename_i r hr
      cases hq
      obtain ⟨xs', e1, a1⟩ := vr_agg (vl_sound ha.f hx hu')
      obtain ⟨ys', e2, a2⟩ := vr_agg (vl_sound ha.f hy hv)
      rw [e1, e2]
      have := eqs_run (P := P) (w := w) (x := x) (y := y) ho hm hs hag (eqL_rel hr a1 a2)
      exact gives_v this (.base (.bool _))
    · cases hq
  · cases hq
theorem q_bin (ha : At P B0 W β lam fr h w act) {op : BinOp} {t : TypeId} {x y : Operand} {a b : X} {ao : AO} (hc : cB P op t a b = some ao) (hx : cX x = some a) (hy : cX y = some b) {v : TV} (hq : qO ao fr h = some v) :
    Gives P β lam w (BinS op t x y (act.eval x) (act.eval y)) v := by
  have eqB : ∀ g : Bool, Neg op g → cE P g op t a b = some ao → Gives P β lam w (BinS op t x y (act.eval x) (act.eval y)) v := by
    intro g ho hc'
    unfold cE at hc'
    split at hc'
    · cases hc'; exact q_bin0 ha hx hy hq
    · cases hc'; exact q_bin0 ha hx hy hq
    · rename_i hu; cases hc'; exact q_beq ha ho hu hx hy hq
    · rename_i el hu; cases hc'; exact q_snil ha ho hu hx hy hq
    · rename_i fs hu
      split at hc'
      · cases hc'
      · rename_i hm
        split at hc'
        · rename_i s hs
          cases hc'
          exact q_eqs ha ho (by simpa using hm) hs (by simp [aggT, hu]) hx hy hq
        · cases hc'
    · cases hc'
  unfold cB at hc
  split at hc
  · exact eqB _ (.inl ⟨rfl, rfl⟩) hc
  · exact eqB _ (.inr ⟨rfl, rfl⟩) hc
  · split at hc
    · cases hc; exact q_bin0 ha hx hy hq
    · cases hc; exact q_bin0 ha hx hy hq
    · cases hc
end
end Am
end Go.Proofs.YtfhlblclcdhbiaaGreatDoor
namespace Go.Proofs.YtfhlblclcdhbiaaGreatDoor
open Go
set_option linter.unusedVariables false
set_option linter.unusedSimpArgs false
namespace Am
section
variable {P : Program} {B0 W : Nat} {β : Bt} {lam : Lam} {fr : Fr} {h : AH} {w : World} {act : Act} {H : Hint} {draw : Bool} {o : Oper}

theorem gives_tv {s : Sem Value} {v : TV} {u : Value} (h : s.run P w = .ok u w) (hr : TR β lam v u) : Gives P β lam w (do pure (.value (← s))) v :=
  ⟨u, by simp [h], hr⟩

theorem q_nilck (ha : At P B0 W β lam fr h w act) {x : Operand} {y : X} (hx : cX x = some y) {v : TV} (hq : qO (.nilck y) fr h = some v) :
    Gives P β lam w (match act.eval x with
    | .pointer none | .nilIface | .nilFunc => runtimePanic .nilDeref
    | .func (.method name) first captured =>
      match (first[0]? : Option Value) with
      | some .nilIface => runtimePanic .nilDeref
      | some (.iface t w) => do
        if (← nilAhead ((← program).types.size + Made.depth) t w name) != some false then
          unsupported (.noEntry "op/nilCheck.the method's receiver behind this interface value is a nil pointer, or cannot be seen to be none, and the arguments act or may panic (ledger 612)")
        pure (.value (.func (.method name) first captured))
      | _ => pure (.value (.func (.method name) first captured))
    | x => pure (.value x)) v := by
  have hq : (match ad fr y with | some a => some (adTV a) | none => none) = some v := hq
  split at hq
  · rename_i p hp
    cases hq
    have := ad_sound ha.f hx hp
    cases p with
    | l k g off =>
      obtain ⟨g', b, b', hb, hg, hbb, he⟩ := this
      rw [he]
      exact ⟨_, rfl, .l hb hg hbb⟩
    | h o off =>
      obtain ⟨e, hb, he⟩ := this
      rw [he]
      exact ⟨_, rfl, .v (.base (.ptr hb))⟩
  · cases hq
theorem q_pick (ha : At P B0 W β lam fr h w act) {x y z : Operand} {a b c : X} (hx : cX x = some a) (hy : cX y = some b) (hz : cX z = some c) {v : TV} (hq : qO (.pick a b c) fr h = some v) :
    Gives P β lam w (do pure (.value (if ← asBool (act.eval x) then act.eval y else act.eval z))) v := by
  have hq : (match vl fr a, vl fr b, vl fr c with | some (.bool t), some x, some y => some (TV.v (if t then x else y)) | _, _, _ => none) = some v := hq
  split at hq
  · rename_i t u u' h1 h2 h3
    cases hq
    have e := vr_bool (vl_sound ha.f hx h1)
    have r2 := vl_sound ha.f hy h2
    have r3 := vl_sound ha.f hz h3
    rw [e]
    refine ⟨if t then act.eval y else act.eval z, by simp [asBool], ?_⟩
    cases t
    · exact .v r3
    · exact .v r2
  · cases hq
theorem q_un (ha : At P B0 W β lam fr h w act) {op : UnOp} {x : Operand} {a : X} (hx : cX x = some a) {v : TV} (hq : qO (.un op a) fr h = some v) :
    Gives P β lam w (do pure (.value (← Op.unary op (act.eval x)))) v := by
  have hq : (match vl fr a with | some a => (match unV op a with | some r => some (TV.v r) | none => none) | none => none) = some v := hq
  split at hq
  · rename_i u hu
    split at hq
    · rename_i r hr
      cases hq
      have h1 := vl_sound ha.f hx hu
      unfold unV at hr
      split at hr
      · have e := vr_int h1
        rw [e]
        cases op <;> simp only at hr <;> first
          | (cases hr; done)
          | (simp only [Option.some.injEq] at hr
             subst hr
             exact gives_v (by simp [Op.unary, Op.intArith, Op.intBits]) (.base (.int _ _)))
      · have e := vr_bool h1
        rw [e]
        cases op <;> simp only at hr <;> first
          | (cases hr; done)
          | (simp only [Option.some.injEq] at hr
             subst hr
             exact gives_v (by simp [Op.unary]) (.base (.bool _)))
      · cases hr
    · cases hq
  · cases hq
theorem q_conv (ha : At P B0 W β lam fr h w act) {s d : TypeId} {k k' : IntKind} (hs : P.underlying s = some (.int k')) (hd : P.underlying d = some (.int k)) {x : Operand} {a : X} (hx : cX x = some a) {v : TV} (hq : qO (.conv k a) fr h = some v) :
    Gives P β lam w (do pure (.value (← convert s d (act.eval x)))) v := by
  have hq : (match vl fr a with | some (.int _ n) => some (TV.v (.int k (k.wrap n))) | _ => none) = some v := hq
  split at hq
  · rename_i k1 n hu
    cases hq
    have e := vr_int (vl_sound ha.f hx hu)
    rw [e]
    exact gives_v (by simp [convert, run_underlying hs, run_underlying hd, Conv.intToInt]) (.base (.int _ _))
  · cases hq
theorem q_same (ha : At P B0 W β lam fr h w act) {s d : TypeId} (hs : P.underlying s = some .string) (hd : P.underlying d = some .string) {x : Operand} {a : X} (hx : cX x = some a) {v : TV} (hq : qO (.same a) fr h = some v) :
    Gives P β lam w (do pure (.value (← convert s d (act.eval x)))) v := by
  have hq : (match vl fr a with | some (.string s) => some (TV.v (.string s)) | _ => none) = some v := hq
  split at hq
  · rename_i n hu
    cases hq
    have e := vr_string (vl_sound ha.f hx hu)
    rw [e]
    exact gives_v (by simp [convert, run_underlying hs, run_underlying hd]) (.base (.string _))
  · cases hq
theorem q_b2s (ha : At P B0 W β lam fr h w act) {s d el : TypeId} (hs : P.underlying s = some (.slice el)) (hel : P.underlying el = some (.int .u8)) (hd : P.underlying d = some .string) {x : Operand} {a : X} (hx : cX x = some a) {v : TV} (hq : qO (.b2s a) fr h = some v) :
    Gives P β lam w (do pure (.value (← convert s d (act.eval x)))) v := by
  have hq : (match vl fr a with
    | some (.slice none _ _) => some (TV.v (.string .empty))
    | some (.slice (some ⟨o, off, none⟩) n _) => (match rd h o off n with
      | some cs => (match nums8 cs with
        | some l => some (TV.v (.string ⟨l.toArray⟩))
        | none => none)
      | none => none)
    | _ => none) = some v := hq
  split at hq
  · rename_i n c hu
    cases hq
    obtain ⟨_, _, e⟩ := vr_snil (vl_sound ha.f hx hu)
    rw [e]
    exact gives_v (by simp [convert, run_underlying hs, run_underlying hd, run_underlying hel, Conv.bytesToString]) (.base (.string _))
  · rename_i o off n c hu
    split at hq
    · rename_i cs hcs
      split at hq
      · rename_i l hl
        cases hq
        obtain ⟨_, _, e, c', hp, e1, he, _⟩ := vr_slice (vl_sound ha.f hx hu)
        cases hp
        obtain ⟨_, us, hul, h2, hc⟩ := rd_cells ha.r he hcs
        rw [e1]
        have hb := b2s_run (P := P) (c := c') hul hc h2 hl
        exact gives_v (by simp [convert, run_underlying hs, run_underlying hd, run_underlying hel, hb]) (.base (.string _))
      · cases hq
    · cases hq
  · cases hq
theorem q_fa (ha : At P B0 W β lam fr h w act) {s : TypeId} {fs : Array Field} {f : Nat} {g : Field} {n : Nat} (hs : P.underlying s = some (.struct fs)) (hf : fs[f]? = some g) (hn : szT P g.type = some (n + 1)) {x : Operand} {a : X} (hx : cX x = some a) {v : TV} (hq : qO (.fa g.offset a) fr h = some v) :
    Gives P β lam w (do pure (.value (← Instr.fieldAt s (act.eval x) f))) v := by
  have hq : (match ad fr a with | some (.l k g' o) => some (TV.l k g' (o + g.offset)) | some (.h b o) => some (TV.v (.pointer (some ⟨b, o + g.offset, none⟩))) | none => none) = some v := hq
  have run : ∀ b off, (Instr.fieldAt s (.pointer (some ⟨b, off, none⟩)) f).run P w = .ok (.pointer (some ⟨b, off + g.offset, none⟩)) w := by
    intro b off
    simp [Instr.fieldAt, run_underlying hs, hf, Instr.sureAddr, fieldPlace, szT_run hn, addr_add]
  split at hq
  · rename_i k g1 off hu
    cases hq
    obtain ⟨g', b, b', hb, hg, hbb, e⟩ := ad_sound ha.f hx hu
    rw [e]
    exact gives_tv (run _ _) (.l hb hg hbb)
  · rename_i o off hu
    cases hq
    obtain ⟨b, hb, e⟩ := ad_sound ha.f hx hu
    rw [e]
    refine gives_tv (run _ _) (.v (.base ?_))
    rw [Nat.add_assoc]
    exact .ptr hb
  · cases hq
theorem q_fld (ha : At P B0 W β lam fr h w act) {s : TypeId} {fs : Array Field} {f : Nat} {g : Field} {n : Nat} {ag : Bool} (hs : P.underlying s = some (.struct fs)) (hf : fs[f]? = some g) (hn : varT P g.type = some (n, ag)) {x : Operand} {a : X} (hx : cX x = some a) {v : TV} (hq : qO (.fld g.offset n ag a) fr h = some v) :
    Gives P β lam w (do pure (.value (← Instr.field s (act.eval x) f))) v := by
  have hq : (match vl fr a with
    | some (.agg a) => (match sub a.toList g.offset n with
      | some cs => (match Am.ag ag cs with
        | some v => some (TV.v v)
        | none => none)
      | none => none)
    | _ => none) = some v := hq
  split at hq
  · rename_i cs hu
    split at hq
    · rename_i l hl
      split at hq
      · rename_i r hr
        cases hq
        obtain ⟨cs', e, a2⟩ := vr_agg (vl_sound ha.f hx hu)
        rw [e]
        unfold sub at hl
        split at hl
        · rename_i hle
          cases hl
          have hlen := a2.len
          have hp := part_run (P := P) (w := w) hn (cs := cs') (off := g.offset) (by simp at hlen hle; omega)
          exact gives_v (by simp [Instr.field, run_underlying hs, hf, asAgg, hp]) (.w (ag_w ((a2.drop _).take _) hr).1)
        · cases hl
      · cases hq
    · cases hq
  · cases hq
theorem q_ia (ha : At P B0 W β lam fr h w act) {t el : TypeId} {n : Nat} (ht : P.underlying t = some (.slice el)) (hn : szT P el = some n) {x i : Operand} {a j : X} (hx : cX x = some a) (hi : cX i = some j) {v : TV} (hq : qO (.ia n a j) fr h = some v) :
    Gives P β lam w (do pure (.value (← Instr.indexAt t (act.eval x) (act.eval i)))) v := by
  have hq : (match vl fr a, vl fr j with
    | some (.slice (some ⟨o, off, none⟩) m _), some (.int _ j) =>
      if 0 ≤ j ∧ j < m then some (TV.v (.pointer (some ⟨o, off + j.toNat * n, none⟩))) else none
    | _, _ => none) = some v := hq
  split at hq
  · rename_i o off m c k j hu hj
    split at hq
    · rename_i hlt
      cases hq
      obtain ⟨_, _, e, c', hp, e1, he, _⟩ := vr_slice (vl_sound ha.f hx hu)
      cases hp
      have e2 := vr_int (vl_sound ha.f hi hj)
      rw [e1, e2]
      refine gives_v (u := .pointer (some ⟨e.b, e.sh + off + j.toNat * n, none⟩)) (by simp [Instr.indexAt, asIntOf, run_underlying ht, hlt, szT_run hn, addr_add]) (.base ?_)
      rw [Nat.add_assoc]
      exact .ptr he
    · cases hq
  · cases hq
theorem q_iaa (ha : At P B0 W β lam fr h w act) {t el : TypeId} {n l : Nat} (ht : P.underlying t = some (.array l el)) (hn : szT P el = some n) {x i : Operand} {a j : X} (hx : cX x = some a) (hi : cX i = some j) {v : TV} (hq : qO (.iaa l n a j) fr h = some v) :
    Gives P β lam w (do pure (.value (← Instr.indexAt t (act.eval x) (act.eval i)))) v := by
  have hq : (match ad fr a, vl fr j with
    | some (.l k g off), some (.int _ j) => if 0 ≤ j ∧ j < l then some (TV.l k g (off + j.toNat * n)) else none
    | some (.h o off), some (.int _ j) => if 0 ≤ j ∧ j < l then some (TV.v (.pointer (some ⟨o, off + j.toNat * n, none⟩))) else none
    | _, _ => none) = some v := hq
  have run : ∀ b off k (j : Int), 0 ≤ j ∧ j < l → (Instr.indexAt t (.pointer (some ⟨b, off, none⟩)) (.int k j)).run P w = .ok (.pointer (some ⟨b, off + j.toNat * n, none⟩)) w := by
    intro b off k j hj
    simp [Instr.indexAt, asIntOf, run_underlying ht, hj, szT_run hn, addr_add, Instr.sureAddr]
  split at hq
  · rename_i k g1 off k' j hu hj
    split at hq
    · rename_i hlt
      cases hq
      obtain ⟨g', b, b', hb, hg, hbb, e⟩ := ad_sound ha.f hx hu
      have e2 := vr_int (vl_sound ha.f hi hj)
      rw [e, e2]
      exact gives_tv (run _ _ _ _ hlt) (.l hb hg hbb)
    · cases hq
  · rename_i o off k' j hu hj
    split at hq
    · rename_i hlt
      cases hq
      obtain ⟨b, hb, e⟩ := ad_sound ha.f hx hu
      have e2 := vr_int (vl_sound ha.f hi hj)
      rw [e, e2]
      refine gives_tv (run _ _ _ _ hlt) (.v (.base ?_))
      rw [Nat.add_assoc]
      exact .ptr hb
    · cases hq
  · cases hq
theorem q_ixs (ha : At P B0 W β lam fr h w act) {t : TypeId} (ht : P.underlying t = some .string) {x i : Operand} {a j : X} (hx : cX x = some a) (hi : cX i = some j) {v : TV} (hq : qO (.ixs a j) fr h = some v) :
    Gives P β lam w (do pure (.value (← Instr.index t (act.eval x) (act.eval i)))) v := by
  have hq : (match vl fr a, vl fr j with
    | some (.string s), some (.int _ j) => if 0 ≤ j then (match s[j.toNat]? with
        | some b => some (TV.v (.int .u8 b.toNat))
        | none => none)
      else none
    | _, _ => none) = some v := hq
  split at hq
  · rename_i s k j hu hj
    split at hq
    · rename_i h0
      split at hq
      · rename_i b hb
        cases hq
        have e1 := vr_string (vl_sound ha.f hx hu)
        have e2 := vr_int (vl_sound ha.f hi hj)
        rw [e1, e2]
        exact gives_v (by simp [Instr.index, asIntOf, run_underlying ht, h0, hb]) (.base (.int _ _))
      · cases hq
    · cases hq
  · cases hq
theorem q_ixa (ha : At P B0 W β lam fr h w act) {t el : TypeId} {n l : Nat} {g : Bool} (ht : P.underlying t = some (.array l el)) (hv : varT P el = some (n, g)) (hn : szT P el = some n) {x i : Operand} {a j : X} (hx : cX x = some a) (hi : cX i = some j) {v : TV} (hq : qO (.ixa l n g a j) fr h = some v) :
    Gives P β lam w (do pure (.value (← Instr.index t (act.eval x) (act.eval i)))) v := by
  have hq : (match vl fr a, vl fr j with
    | some (.agg a), some (.int _ j) => if 0 ≤ j ∧ j < l then (match sub a.toList (j.toNat * n) n with
        | some cs => (match ag g cs with
          | some v => some (TV.v v)
          | none => none)
        | none => none)
      else none
    | _, _ => none) = some v := hq
  split at hq
  · rename_i cs k j hu hj
    split at hq
    · rename_i hlt
      split at hq
      · rename_i l' hl
        split at hq
        · rename_i r hr
          cases hq
          obtain ⟨cs', e1, a2⟩ := vr_agg (vl_sound ha.f hx hu)
          have e2 := vr_int (vl_sound ha.f hi hj)
          rw [e1, e2]
          unfold sub at hl
          split at hl
          · rename_i hle
            cases hl
            have hlen := a2.len
            have hp := part_run (P := P) (w := w) hv (cs := cs') (off := j.toNat * n) (by simp at hlen hle; omega)
            exact gives_v (by simp [Instr.index, asIntOf, run_underlying ht, hlt, szT_run hn, hp]) (.w (ag_w ((a2.drop _).take _) hr).1)
          · cases hl
        · cases hq
      · cases hq
    · cases hq
  · cases hq
theorem q_ext (ha : At P B0 W β lam fr h w act) {x : Operand} {a : X} {j : Nat} (hx : cX x = some a) {v : TV} (hq : qO (.ext j a) fr h = some v) :
    Gives P β lam w (do pure (.value (← Instr.extract (act.eval x) j))) v := by
  have hq : (match vl fr a with
    | some (.tuple vs) => (match vs[j]? with
      | some v => some (TV.v v)
      | none => none)
    | _ => none) = some v := hq
  split at hq
  · rename_i vs hu
    split at hq
    · rename_i r hr
      cases hq
      obtain ⟨vs', e, a2⟩ := vr_tup (vl_sound ha.f hx hu)
      obtain ⟨u, hu', hr'⟩ := a2.get j r (by simpa using hr)
      rw [e]
      exact gives_v (by simp at hu'; simp [Instr.extract, hu']) (.w hr')
    · cases hq
  · cases hq
theorem q_mkfn (ha : At P B0 W β lam fr h w act) {f : FuncId} {xs : Array Operand} {l : List X} (hx : cXs xs.toList = some l) {v : TV} (hq : qO (.mkfn f l) fr h = some v) :
    Gives P β lam w (do pure (.value (← Instr.makeFunc (.func f) ((#[] : Array Operand).map act.eval) (xs.map act.eval)))) v := by
  have hq : (match vls fr l with
    | some vs => if vs.all isB then some (TV.v (.func (.func f) #[] vs.toArray)) else none
    | none => none) = some v := hq
  split at hq
  · rename_i vs hu
    split at hq
    · rename_i hb
      cases hq
      have r := a2_isB (vls_sound ha.f hx hu) hb
      have e : xs.map act.eval = (xs.toList.map act.eval).toArray := by apply Array.ext'; simp
      rw [e]
      refine gives_v (u := .func (.func f) #[] (xs.toList.map act.eval).toArray) ?_ (.w (.cell (.func r)))
      simp [Instr.makeFunc]
    · cases hq
  · cases hq
end
end Am
end Go.Proofs.YtfhlblclcdhbiaaGreatDoor
namespace Go.Proofs.YtfhlblclcdhbiaaGreatDoor
open Go
set_option linter.unusedVariables false
set_option linter.unusedSimpArgs false
namespace Am
section
variable {P : Program} {B0 W : Nat} {β : Bt} {lam : Lam} {fr : Fr} {h : AH} {w : World} {act : Act} {H : Hint} {draw : Bool} {o : Oper}

theorem run_builtin {b : Builtin} {c : Call} {ty : TypeId} (hc : c.callee = .builtin b) :
    (do let d ← resolve act.eval c ty; invoke d.target d.args : Sem Next) = builtin b c.argTypes ty (c.args.map fun | .const _ => true | _ => false) (c.args.map act.eval) := by
  simp only [resolve, hc]
  rfl
theorem q_len (ha : At P B0 W β lam fr h w act) {x : Operand} {t el : TypeId} {a : X} (ht : P.underlying t = some (.slice el)) (hx : cX x = some a) {v : TV} (hq : qO (.len a) fr h = some v) {ty : TypeId} :
    Gives P β lam w (do pure (.value (← Builtin.len_ #[t] ty #[act.eval x]))) v := by
  have hq : (match vl fr a with | some (.slice _ n _) => some (TV.v (.int .i64 n)) | _ => none) = some v := hq
  split at hq
  · rename_i p n c hu
    cases hq
    have hr := vl_sound ha.f hx hu
    cases p with
    | none =>
      obtain ⟨rfl, rfl, e⟩ := vr_snil hr
      rw [e]
      exact gives_v (by simp [Builtin.len_, run_underlying ht, goInt]) (.base (.int _ _))
    | some p =>
      obtain ⟨_, _, _, _, _, e, _⟩ := vr_slice hr
      rw [e]
      exact gives_v (by simp [Builtin.len_, run_underlying ht, goInt]) (.base (.int _ _))
  · cases hq
theorem q_slen (ha : At P B0 W β lam fr h w act) {x : Operand} {t : TypeId} {a : X} (ht : P.underlying t = some .string) (hx : cX x = some a) {v : TV} (hq : qO (.slen a) fr h = some v) {ty : TypeId} :
    Gives P β lam w (do pure (.value (← Builtin.len_ #[t] ty #[act.eval x]))) v := by
  have hq : (match vl fr a with | some (.string s) => some (TV.v (.int .i64 s.size)) | _ => none) = some v := hq
  split at hq
  · rename_i s hu
    cases hq
    rw [vr_string (vl_sound ha.f hx hu)]
    exact gives_v (by simp [Builtin.len_, run_underlying ht, goInt]) (.base (.int _ _))
  · cases hq
theorem q_mm (ha : At P B0 W β lam fr h w act) {mx : Bool} {x y : Operand} {a b : X} (hx : cX x = some a) (hy : cX y = some b) {v : TV} (hq : qO (.mm mx a b) fr h = some v) {ts : Array TypeId} {ty : TypeId} :
    Gives P β lam w (do pure (.value (← (if mx then Builtin.max_ ts ty #[act.eval x, act.eval y] else Builtin.min_ ts ty #[act.eval x, act.eval y])))) v := by
  have hq : (match vl fr a, vl fr b with | some a, some b => (match mmV mx a b with | some r => some (TV.v r) | none => none) | _, _ => none) = some v := hq
  split at hq
  · rename_i u v' hu hv
    split at hq
    · rename_i r hr
      cases hq
      have h1 := vl_sound ha.f hx hu
      have h2 := vl_sound ha.f hy hv
      unfold mmV at hr
      split at hr
      · cases hr
        rw [vr_int h1, vr_int h2]
        cases mx <;> exact gives_v (by simp [Builtin.max_, Builtin.min_, Builtin.max2, Builtin.min2]; try rfl) (.base (.int _ _))
      · cases hr
    · cases hq
  · cases hq

theorem foldl_over : ∀ (vs : List Value) (k off : Nat) (cells : Array Value), off + k + vs.length ≤ cells.size →
    ((vs.zipIdx k).foldl (fun cs (p : Value × Nat) => cs.setIfInBounds (off + p.2) p.1) cells).toList = cells.toList.take (off + k) ++ vs ++ cells.toList.drop (off + k + vs.length)
  | [], k, off, cells, h => by simp
  | v :: vs, k, off, cells, h => by
    simp only [List.length_cons] at h
    simp only [List.zipIdx_cons, List.foldl_cons]
    rw [foldl_over vs (k + 1) off _ (by simp; omega)]
    have hlt : off + k < cells.toList.length := by simp; omega
    simp only [Array.toList_setIfInBounds, List.length_cons]
    rw [show off + (k + 1) = off + k + 1 from by omega, List.take_succ_eq_append_getElem (by simp; omega), List.getElem_set_self, List.take_set_of_le (by omega), List.drop_set_of_lt (by omega)]
    simp only [List.append_assoc, List.singleton_append]
    rw [show off + k + 1 + vs.length = off + k + (vs.length + 1) from by omega]
theorem over_eq {cs vs l : List Value} {off : Nat} (h : over cs off vs = some l) : off + vs.length ≤ cs.length ∧ l = cs.take off ++ vs ++ cs.drop (off + vs.length) := by
  unfold over at h
  split at h
  · rename_i hle; cases h; exact ⟨hle, rfl⟩
  · cases h
theorem over_len {cs vs l : List Value} {off : Nat} (h : over cs off vs = some l) : l.length = cs.length := by
  obtain ⟨h1, rfl⟩ := over_eq h
  simp
  omega
theorem over_rel {cs cs' vs vs' l : List Value} {off : Nat} (hc : A2 (CR β) cs cs') (hv : A2 (CR β) vs vs') (h : over cs off vs = some l) :
    off + vs'.length ≤ cs'.length ∧ A2 (CR β) l (cs'.take off ++ vs' ++ cs'.drop (off + vs'.length)) := by
  obtain ⟨h1, rfl⟩ := over_eq h
  have e1 := hc.len
  have e2 := hv.len
  refine ⟨by omega, ?_⟩
  rw [← e2]
  exact ((hc.take off).append hv).append (hc.drop _)
/-- the parts of a composite value, in the model and here -/
theorem fill_run {place : Nat → Option (Nat × Nat)} : ∀ {ps : List (Nat × List Value)} {parts : List (Nat × Value)} {cells : List Value} {cells' : Array Value} {l : List Value},
    A2 (fun (p : Nat × List Value) (q : Nat × Value) => ∃ n, place q.1 = some (p.1, n) ∧ p.2.length = n ∧ A2 (CR β) p.2 q.2.cells.toList) ps parts → A2 (CR β) cells cells'.toList → fillC cells ps = some l →
    ∃ l', Instr.fill place cells' parts = some l' ∧ A2 (CR β) l l'.toList
  | [], _, cells, cells', l, .nil, hc, h => by
    simp only [fillC, Option.some.injEq] at h
    subst h
    exact ⟨cells', rfl, hc⟩
  | (off, vs) :: ps, _, cells, cells', l, .cons (b := (i, v)) (y := parts) hp ht, hc, h => by
    obtain ⟨n, h1, h2, h3⟩ := hp
    simp only [fillC] at h
    split at h
    · rename_i cs hcs
      obtain ⟨h4, h5⟩ := over_rel hc h3 hcs
      have e := h3.len
      have key := foldl_over v.cells.toList 0 off cells' (by simpa using h4)
      simp only [Nat.add_zero] at key
      obtain ⟨l', hl, hr⟩ := fill_run (place := place) (cells' := (v.cells.zipIdx.foldl (fun cs (p : Value × Nat) => cs.setIfInBounds (off + p.2) p.1) cells')) ht (by
        rw [← Array.foldl_toList, Array.toList_zipIdx, key]; exact h5) h
      refine ⟨l', ?_, hr⟩
      simp only at h1
      simp only [Instr.fill, h1]
      rw [if_neg (by simp at h2 e h4 ⊢; omega)]
      exact hl
    · cases h
end
end Am
end Go.Proofs.YtfhlblclcdhbiaaGreatDoor
namespace Go.Proofs.YtfhlblclcdhbiaaGreatDoor
open Go
set_option linter.unusedVariables false
set_option linter.unusedSimpArgs false
namespace Am
section
variable {P : Program} {B0 W : Nat} {β : Bt} {lam : Lam} {fr : Fr} {h : AH} {w : World} {act : Act} {H : Hint} {draw : Bool} {o : Oper}

theorem zeT_run {t : TypeId} {z : List Value} (hz : zeT P t = some z) (w : World) : ∃ v, (zeroValue t).run P w = .ok v w ∧ v.cells.toList = z ∧ A2 (CR β) z z ∧ isW v = true := by
  unfold zeT at hz
  split at hz
  · rename_i i hi
    split at hz
    · rename_i v hv
      split at hz
      · rename_i hp
        cases hz
        refine ⟨v, by simp [zeroValue, typeInfo, hi, hv], ?_, plain_cl hp, ?_⟩
        · unfold cl
          split
          · rfl
          · rename_i h'
            unfold Value.cells
            split
            · rename_i cs; exact absurd rfl (h' cs)
            · rfl
        · unfold isW
          split
          · simp [plainV, plain0] at hp
          · rfl
      · cases hz
    · cases hz
  · cases hz
theorem parts_rel {fs : Array Field} (hf : FrR β lam fr act.tmps) : ∀ {xs : List (Nat × Operand)} {ys : List (Nat × Nat × X)}, cParts P fs xs = some ys → ∀ {ps : List (Nat × List Value)}, partsV fr ys = some ps →
    A2 (fun (p : Nat × List Value) (q : Nat × Value) => ∃ n, (match fs[q.1]? with | some f => (match szT P f.type with | some n => some (f.offset, n) | none => none) | none => none) = some (p.1, n) ∧ p.2.length = n ∧ A2 (CR β) p.2 q.2.cells.toList) ps (xs.map fun (i, x) => (i, act.eval x))
  | [], ys, hc, ps, hp => by
    simp only [cParts, Option.some.injEq] at hc
    subst hc
    simp only [partsV, Option.some.injEq] at hp
    subst hp
    exact .nil
  | (i, x) :: xs, ys, hc, ps, hp => by
    simp only [cParts] at hc
    split at hc
    · rename_i f a l hfi hx hl
      split at hc
      · rename_i n hn
        cases hc
        simp only [partsV] at hp
        split at hp
        · rename_i v ps' hv hps
          split at hp
          · rename_i hw
            cases hp
            exact .cons ⟨n, by simp [hfi, hn], hw.2, wr_cl (vr_w (vl_sound hf hx hv) hw.1)⟩ (parts_rel hf hl hps)
          · cases hp
        · cases hp
      · cases hc
    · cases hc
theorem partsA_rel {sz : Nat} (hf : FrR β lam fr act.tmps) : ∀ {xs : List (Nat × Operand)} {ys : List (Nat × Nat × X)}, cPartsA sz xs = some ys → ∀ {ps : List (Nat × List Value)}, partsV fr ys = some ps →
    A2 (fun (p : Nat × List Value) (q : Nat × Value) => ∃ n, (some (q.1 * sz, sz)) = some (p.1, n) ∧ p.2.length = n ∧ A2 (CR β) p.2 q.2.cells.toList) ps (xs.map fun (i, x) => (i, act.eval x))
  | [], ys, hc, ps, hp => by
    simp only [cPartsA, Option.some.injEq] at hc
    subst hc
    simp only [partsV, Option.some.injEq] at hp
    subst hp
    exact .nil
  | (i, x) :: xs, ys, hc, ps, hp => by
    simp only [cPartsA] at hc
    split at hc
    · rename_i a l hx hl
      cases hc
      simp only [partsV] at hp
      split at hp
      · rename_i v ps' hv hps
        split at hp
        · rename_i hw
          cases hp
          exact .cons ⟨sz, rfl, hw.2, wr_cl (vr_w (vl_sound hf hx hv) hw.1)⟩ (partsA_rel hf hl hps)
        · cases hp
      · cases hp
    · cases hc
def plc (P : Program) (f : Field) : Nat × Nat := (f.offset, (szT P f.type).getD 0)
theorem mapM_run : ∀ {fs : List Field}, (∀ f ∈ fs, (szT P f.type).isSome = true) →
    (fs.mapM (fun f => do pure (f.offset, ← sizeOf f.type) : Field → Sem (Nat × Nat))).run P w = .ok (fs.map (plc P)) w
  | [], _ => rfl
  | f :: fs, h => by
    have h1 := h f (by simp)
    obtain ⟨n, hn⟩ := Option.isSome_iff_exists.mp h1
    have ih := mapM_run (fs := fs) (fun f hf => h f (List.mem_cons_of_mem _ hf))
    simp only [List.mapM_cons, Sem.run_bind, szT_run hn, Result.andThen_ok, Sem.run_pure, ih, List.map_cons, plc, hn, Option.getD_some]
theorem q_bld_s (ha : At P B0 W β lam fr h w act) {t : TypeId} {fs : Array Field} {z : List Value} (ht : P.underlying t = some (.struct fs)) (hz : zeT P t = some z) (hall : fs.toList.all (fun f => (szT P f.type).isSome) = true)
    {parts : Array (Nat × Operand)} {l : List (Nat × Nat × X)} (hp : cParts P fs parts.toList = some l) {v : TV} (hq : qO (.bld z l) fr h = some v) :
    Gives P β lam w (do pure (.value (← Instr.build t (parts.map fun (i, x) => (i, act.eval x))))) v := by
  have hq : (match partsV fr l with
    | some ps => (match fillC z ps with
      | some cs => some (TV.v (.agg cs.toArray))
      | none => none)
    | none => none) = some v := hq
  split at hq
  · rename_i ps hps
    split at hq
    · rename_i cs hcs
      cases hq
      obtain ⟨zv, hrun, hcl, hself, _⟩ := zeT_run hz w
      have hm := mapM_run (P := P) (w := w) (fs := fs.toList) (fun f hf => List.all_eq_true.mp hall f hf)
      have hrel := parts_rel (β := β) (P := P) (fs := fs) ha.f hp hps
      obtain ⟨l', hl', hr⟩ := fill_run (place := fun i => (fs.map (plc P))[i]?) (cells' := zv.cells) (hrel.imp fun p q ⟨n, h1, h2, h3⟩ => ⟨n, by
        split at h1
        · rename_i f hf
          split at h1
          · rename_i n' hn'
            simp only [Option.some.injEq, Prod.mk.injEq] at h1
            obtain ⟨h1, rfl⟩ := h1
            simp [hf, plc, hn', h1]
          · exact absurd h1 (by simp)
        · exact absurd h1 (by simp), h2, h3⟩) (by rw [hcl]; exact hself) hcs
      refine gives_v (u := .agg l') ?_ (.w ?_)
      · have hm' : (fs.mapM (fun f => do pure (f.offset, ← sizeOf f.type) : Field → Sem (Nat × Nat))).run P w = .ok (fs.map (plc P)) w := by
          rw [Array.mapM_eq_mapM_toList]
          simp only [Sem.run_map, hm, Result.andThen_ok]
          congr 1
          apply Array.ext'
          simp
        simp only [Instr.build, Sem.run_bind, hrun, Result.andThen_ok, run_underlying ht, hm']
        have e : (parts.map fun (i, x) => (i, act.eval x)).toList = parts.toList.map fun (i, x) => (i, act.eval x) := by simp
        rw [e]
        simp only [hl', Sem.run_pure]
      · have := WR.agg hr
        simpa using this
    · cases hq
  · cases hq
theorem q_bld_a (ha : At P B0 W β lam fr h w act) {t el : TypeId} {n k : Nat} {z : List Value} (ht : P.underlying t = some (.array k el)) (hn : szT P el = some n) (hz : zeT P t = some z)
    {parts : Array (Nat × Operand)} {l : List (Nat × Nat × X)} (hp : cPartsA n parts.toList = some l) {v : TV} (hq : qO (.bld z l) fr h = some v) :
    Gives P β lam w (do pure (.value (← Instr.build t (parts.map fun (i, x) => (i, act.eval x))))) v := by
  have hq : (match partsV fr l with
    | some ps => (match fillC z ps with
      | some cs => some (TV.v (.agg cs.toArray))
      | none => none)
    | none => none) = some v := hq
  split at hq
  · rename_i ps hps
    split at hq
    · rename_i cs hcs
      cases hq
      obtain ⟨zv, hrun, hcl, hself, _⟩ := zeT_run hz w
      have hrel := partsA_rel (β := β) ha.f hp hps
      obtain ⟨l', hl', hr⟩ := fill_run (place := fun i => some (i * n, n)) (cells' := zv.cells) hrel (by rw [hcl]; exact hself) hcs
      refine gives_v (u := .agg l') ?_ (.w ?_)
      · simp only [Instr.build, Sem.run_bind, hrun, Result.andThen_ok, run_underlying ht, szT_run hn]
        have e : (parts.map fun (i, x) => (i, act.eval x)).toList = parts.toList.map fun (i, x) => (i, act.eval x) := by simp
        rw [e]
        simp only [hl', Sem.run_pure]
      · have := WR.agg hr
        simpa using this
    · cases hq
  · cases hq
theorem q_sls (ha : At P B0 W β lam fr h w act) {t : TypeId} (ht : P.underlying t = some .string) {x : Operand} {lo hi : Option Operand} {a : X} {l m : Option X} (hx : cX x = some a) (hl : cOX lo = some l) (hh : cOX hi = some m) {v : TV} (hq : qO (.sls a l m) fr h = some v) :
    Gives P β lam w (do pure (.value (← Instr.sliceAt t (act.eval x) (lo.map act.eval) (hi.map act.eval) none))) v := by
  have hq : (match vl fr a, oX fr l, oX fr m with
    | some (.string s), some l, some m => (match bnds l m s.size s.size with
      | some (a, b) => some (TV.v (.string (s.extract a b)))
      | none => none)
    | _, _, _ => none) = some v := hq
  split at hq
  · rename_i s l' m' hu hl' hm'
    split at hq
    · rename_i i j hb
      cases hq
      have e := vr_string (vl_sound ha.f hx hu)
      obtain ⟨_, hrun, _⟩ := bnds_run (P := P) (w := w) (β := β) (mx := none) (mx' := none) (oX_sound ha.f hl hl') (oX_sound ha.f hh hm') (.inl ⟨rfl, rfl⟩) (Nat.le_refl _) rfl hb (by simp) false
      rw [e]
      exact gives_v (by simp [Instr.sliceAt, run_underlying ht, Instr.slice, hrun]) (.base (.string _))
    · cases hq
  · cases hq
theorem q_sl (ha : At P B0 W β lam fr h w act) {t el : TypeId} {n : Nat} (ht : P.underlying t = some (.slice el)) (hn : szT P el = some n) {x : Operand} {lo hi mx : Option Operand} {a : X} {l m p : Option X} (hx : cX x = some a) (hl : cOX lo = some l) (hh : cOX hi = some m) (hmx : cOX mx = some p) (hmh : (p.isSome && m.isNone) = false) {v : TV} (hq : qO (.sl n a l m p) fr h = some v) :
    Gives P β lam w (do pure (.value (← Instr.sliceAt t (act.eval x) (lo.map act.eval) (hi.map act.eval) (mx.map act.eval)))) v := by
  have hq : (match vl fr a, oX fr l, oX fr m, oX fr p with
    | some (.slice q k c), some l, some m, some t =>
      (match capM t c with
      | none => none
      | some c' => (match bnds l m k c' with
        | some (a, b) => (match q with
          | some ⟨o, off, none⟩ => if a = 0 ∨ (a < c' ∧ objZ h o = some n) then some (TV.v (.slice (some ⟨o, off + a * n, none⟩) (b - a) (c' - a))) else none
          | none => some (TV.v (.slice none (b - a) (c' - a)))
          | _ => none)
        | none => none))
    | _, _, _, _ => none) = some v := hq
  have hsome : ∀ {y : Option X} {u : Option Value}, oX fr y = some u → u.isSome = y.isSome := by
    intro y u hy
    cases y with
    | none => simp only [oX, Option.some.injEq] at hy; subst hy; rfl
    | some y =>
      simp only [oX] at hy
      split at hy
      · cases hy; rfl
      · cases hy
  split at hq
  · rename_i q k c l' m' p' hu hl' hm' hp'
    split at hq
    · cases hq
    · rename_i c' hc'
      split at hq
      · rename_i i j hb
        have hr := vl_sound ha.f hx hu
        have hmh' : p'.isSome = true → m'.isSome = true := by
          rw [hsome hp', hsome hm']
          intro h
          rw [h] at hmh
          cases m <;> simp at hmh ⊢
        split at hq
        · rename_i o off
          split at hq
          · rename_i hi0
            cases hq
            obtain ⟨_, _, e, cc, hp2, e1, he, hnk, hcc, hc0, hN⟩ := vr_slice hr
            cases hp2
            obtain ⟨m'', hrun, hm1, hm2, hij, hjn, hjm⟩ := bnds_run (P := P) (w := w) (β := β) (oX_sound ha.f hl hl') (oX_sound ha.f hh hm') (oX_sound ha.f hmx hp') hcc hc' hb hmh' true
            rw [e1]
            have hc'c : c' ≤ c := by
              cases p' with
              | none => simp [capM] at hc'; omega
              | some pv =>
                simp only [capM] at hc'
                unfold bnd at hc'
                split at hc'
                · split at hc'
                  · cases hc'; omega
                  · cases hc'
                · cases hc'
            have hmm : c' ≤ m'' ∧ m'' ≤ cc ∧ (c' = m'' ∨ (m'' = cc ∧ c' = c)) := by
              cases hpp : p' with
              | none => obtain ⟨h1, h2⟩ := hm2 hpp; omega
              | some pv => have := hm1 (by simp [hpp]); omega
            have hjc : j ≤ c' := by
              cases hmm' : m' with
              | none =>
                have := hjn hmm'
                have hpn : p' = none := by
                  cases hpp : p' with
                  | none => rfl
                  | some pv => have := hmh' (by simp [hpp]); simp [hmm'] at this
                have := (hm2 hpn).2
                omega
              | some _ => exact hjm (by simp [hmm'])
            refine gives_v (u := .slice (some ⟨e.b, e.sh + (off + i * n), none⟩) (j - i) (m'' - i)) ?_ (.base ?_)
            · simp only [Instr.sliceAt, Sem.run_bind, run_underlying ht, Result.andThen_ok, Instr.slice, hrun, szT_run hn, Sem.run_pure]
              congr 2
              split
              · rename_i hmi
                have : i = 0 := by omega
                subst this
                simp
              · simp [addr_add, Nat.add_assoc]
            · refine .sl he (by omega) (by omega) (by omega) fun how => ?_
              have := hN how
              have h1 : (i + (m'' - i)) * e.sz ≤ cc * e.sz := Nat.mul_le_mul_right _ (by omega)
              rw [Nat.add_mul] at h1
              rcases hi0 with rfl | ⟨_, hz⟩
              · simp at h1 ⊢; omega
              · have hsz : n = e.sz := by
                  unfold objZ at hz
                  split at hz
                  · rename_i z cs ho
                    cases hz
                    exact ((ha.r.cell o e _ _ he ho).1 how).1
                  · cases hz
                subst hsz
                omega
          · cases hq
        · cases hq
          obtain ⟨rfl, rfl, e⟩ := vr_snil hr
          obtain ⟨m'', hrun, hm1, hm2, hij, hjn, hjm⟩ := bnds_run (P := P) (w := w) (β := β) (oX_sound ha.f hl hl') (oX_sound ha.f hh hm') (oX_sound ha.f hmx hp') (Nat.le_refl 0) hc' hb hmh' true
          rw [e]
          have hc0 : c' = 0 := by
            cases p' with
            | none => simp [capM] at hc'; omega
            | some pv =>
              simp only [capM] at hc'
              unfold bnd at hc'
              split at hc'
              · split at hc'
                · cases hc'; omega
                · cases hc'
              · cases hc'
          have hj0 : j = 0 := by
            cases hmm' : m' with
            | none => exact hjn hmm'
            | some _ => have := hjm (by simp [hmm']); omega
          have hm0 : m'' = 0 := by
            cases hpp : p' with
            | none => exact (hm2 hpp).1
            | some pv => have := hm1 (by simp [hpp]); omega
          subst hj0 hm0 hc0
          have : i = 0 := by omega
          subst this
          refine gives_v (u := .slice none 0 0) ?_ (.base .snil)
          simp [Instr.sliceAt, run_underlying ht, Instr.slice, hrun, szT_run hn]
        · cases hq
      · cases hq
  · cases hq
end
end Am
end Go.Proofs.YtfhlblclcdhbiaaGreatDoor
namespace Go.Proofs.YtfhlblclcdhbiaaGreatDoor
open Go
set_option linter.unusedVariables false
set_option linter.unusedSimpArgs false
namespace Am
section
variable {P : Program} {B0 W : Nat} {β : Bt} {lam : Lam} {fr : Fr} {h : AH} {w : World} {act : Act} {H : Hint} {draw : Bool}

theorem q_call (ha : At P B0 W β lam fr h w act) {c : Call} {ty : TypeId} {a : AO} (hc : cCall P draw c = some a) {v : TV} (hq : qO a fr h = some v) :
    Gives P β lam w (do let d ← resolve act.eval c ty; invoke d.target d.args) v := by
  unfold cCall at hc
  split at hc
  · split at hc
    · cases hc; cases hq
    · cases hc
  · split at hc
    · cases hc; cases hq
    · cases hc
  · rename_i hcal
    rw [run_builtin hcal]
    split at hc
    · rename_i x t hx ht
      have e1 : c.args.map act.eval = #[act.eval x] := by apply Array.ext'; simp [hx]
      have e2 : c.argTypes = #[t] := by apply Array.ext'; simpa using ht
      rw [e1, e2]
      split at hc
      · rename_i el a' hu ha'
        cases hc
        exact q_len ha hu ha' hq
      · rename_i a' hu ha'
        cases hc
        exact q_slen ha hu ha' hq
      · cases hc
    · cases hc
  · split at hc
    · split at hc
      · split at hc
        · split at hc
          · cases hc; cases hq
          · cases hc
        · cases hc
      · cases hc
    · cases hc
  · rename_i hcal
    rw [run_builtin hcal]
    split at hc
    · rename_i x y hx
      have e1 : c.args.map act.eval = #[act.eval x, act.eval y] := by apply Array.ext'; simp [hx]
      rw [e1]
      split at hc
      · rename_i a' b' hx' hy'
        cases hc
        exact q_mm (mx := false) (ts := c.argTypes) (ty := ty) ha hx' hy' hq
      · cases hc
    · cases hc
  · rename_i hcal
    rw [run_builtin hcal]
    split at hc
    · rename_i x y hx
      have e1 : c.args.map act.eval = #[act.eval x, act.eval y] := by apply Array.ext'; simp [hx]
      rw [e1]
      split at hc
      · rename_i a' b' hx' hy'
        cases hc
        exact q_mm (mx := true) (ts := c.argTypes) (ty := ty) ha hx' hy' hq
      · cases hc
    · cases hc
  · cases hc
set_option maxHeartbeats 1000000 in
theorem q_sound (ha : At P B0 W β lam fr h w act) {o : Oper} {a : AO} (hc : cO P H draw o = some a) {v : TV} (hq : qO a fr h = some v) :
    Gives P β lam w (execOp act.eval o) v := by
  unfold execOp
  unfold cO at hc
  split at hc
  all_goals first
    | (cases hc; done)
    | (rename_i heq; simp only [heq])
  case h_1 x heq =>
    split at hc
    · rename_i y hy
      cases hc
      have hq : (match tv fr y with | some v => some v | none => none) = some v := hq
      split at hq
      · rename_i u hu
        cases hq
        exact ⟨_, rfl, tv_sound ha.f hy hu⟩
      · cases hq
    · cases hc
  case h_2 x heq =>
    split at hc
    · rename_i y hy
      cases hc
      have hq : (match tv fr y with | some v => some v | none => none) = some v := hq
      split at hq
      · rename_i u hu
        cases hq
        exact ⟨_, rfl, tv_sound ha.f hy hu⟩
      · cases hq
    · cases hc
  case h_3 x heq =>
    split at hc
    · rename_i y hy
      cases hc
      exact q_nilck ha hy hq
    · cases hc
  case h_4 c a b heq =>
    split at hc
    · rename_i x y z h1 h2 h3
      cases hc
      exact q_pick ha h1 h2 h3 hq
    · cases hc
  case h_5 t heq =>
    split at hc
    · split at hc <;> (cases hc; cases hq)
    · cases hc
  case h_6 e x heq =>
    split at hc
    · split at hc <;> (cases hc; cases hq)
    · cases hc
  case h_7 t x heq =>
    split at hc
    · rename_i n g y hv hx
      simp only [Option.some.injEq] at hc
      subst hc
      split at hq
      · exact q_lload ha hv hx hq
      · exact q_load ha hv hx hq
    · cases hc
  case h_8 t a x heq =>
    split at hc
    · simp only [Option.some.injEq] at hc
      subst hc
      split at hq <;> cases hq
    · cases hc
  case h_9 op xt x y yt heq =>
    split at hc
    · rename_i a' b' hx hy
      exact q_bin ha hc hx hy hq
    · cases hc
  case h_10 op xt x heq =>
    split at hc
    · rename_i a' hx
      cases hc
      exact q_un ha hx hq
    · cases hc
  case h_11 s d x heq =>
    split at hc
    · rename_i a' hx
      split at hc
      · rename_i k1 k2 hs hd
        cases hc
        exact q_conv ha hs hd hx hq
      · rename_i hs hd
        cases hc
        exact q_same ha hs hd hx hq
      · rename_i e hs hd
        split at hc
        · rename_i hel
          cases hc
          exact q_b2s ha hs hel hd hx hq
        · cases hc
      · cases hc
    · cases hc
  case h_12 s x f heq =>
    split at hc
    · rename_i fs a' hs hx
      split at hc
      · rename_i g hf
        split at hc
        · rename_i n hn
          cases hc
          exact q_fa ha hs hf hn hx hq
        · cases hc
      · cases hc
    · cases hc
  case h_13 s x f heq =>
    split at hc
    · rename_i fs a' hs hx
      split at hc
      · rename_i g hf
        split at hc
        · rename_i n b hn
          cases hc
          exact q_fld ha hs hf hn hx hq
        · cases hc
      · cases hc
    · cases hc
  case h_14 t x i heq =>
    split at hc
    · rename_i e a' j ht hx hi
      split at hc
      · rename_i n hn
        cases hc
        exact q_ia ha ht hn hx hi hq
      · cases hc
    · rename_i l e a' j ht hx hi
      split at hc
      · rename_i n hn
        split at hc
        · cases hc
          exact q_iaa ha ht hn hx hi hq
        · cases hc
      · cases hc
    · cases hc
  case h_15 t x i heq =>
    split at hc
    · rename_i a' j ht hx hi
      cases hc
      exact q_ixs ha ht hx hi hq
    · rename_i l e a' j ht hx hi
      split at hc
      · rename_i n b n' hv hn
        split at hc
        · rename_i hnn
          subst hnn
          cases hc
          exact q_ixa ha ht hv hn hx hi hq
        · cases hc
      · cases hc
    · cases hc
  case h_16 t l c heq =>
    split at hc
    · split at hc
      · split at hc
        · cases hc; cases hq
        · cases hc
      · cases hc
    · cases hc
  case h_17 t x lo hi mx =>
    split at hc
    · rename_i a' l h' ht hx hl hh hm
      cases hc
      have hmx : mx = none := by
        unfold cOX at hm
        split at hm
        · rfl
        · split at hm <;> cases hm
      subst hmx
      exact q_sls ha ht hx hl hh hq
    · rename_i e a' l h' m ht hx hl hh hm
      split at hc
      · rename_i n hn
        split at hc
        · cases hc
        · rename_i hmh
          cases hc
          exact q_sl ha ht hn hx hl hh hm (by simpa only [Bool.not_eq_true] using hmh) hq
      · cases hc
    · cases hc
  case h_18 x j heq =>
    split at hc
    · rename_i a' hx
      cases hc
      exact q_ext ha hx hq
    · cases hc
  case h_19 f first cap =>
    split at hc
    · rename_i hsz
      split at hc
      · rename_i l hl
        cases hc
        have : first = #[] := Array.eq_empty_of_size_eq_zero hsz
        subst this
        exact q_mkfn ha hl hq
      · cases hc
    · cases hc
  case h_20 t parts heq =>
    split at hc
    · rename_i fs z ht hz
      split at hc
      · rename_i l hl
        split at hc
        · rename_i hall
          cases hc
          exact q_bld_s ha ht hz hall hl hq
        · cases hc
      · cases hc
    · rename_i k e z ht hz
      split at hc
      · rename_i n hn
        split at hc
        · rename_i l hl
          cases hc
          exact q_bld_a ha ht hn hz hl hq
        · cases hc
      · cases hc
    · cases hc
  case h_21 t n parts heq =>
    split at hc
    · split at hc
      · split at hc
        · cases hc; cases hq
        · cases hc
      · cases hc
    · cases hc
  case h_22 c heq => exact q_call ha hc hq
end
end Am
end Go.Proofs.YtfhlblclcdhbiaaGreatDoor

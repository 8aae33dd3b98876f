/- The abstract machine's calls are sound. -/
import Derived.Test.YtfhlblclcdhbiaaGreatDoorCore1
import Derived.Test.YtfhlblclcdhbiaaGreatDoorCore3
namespace Go.Proofs.YtfhlblclcdhbiaaGreatDoor
open Go
set_option linter.unusedVariables false
set_option linter.unusedSimpArgs false
namespace Am
/-- The heap below the bar stands. -/
structure Low (h h' : AH) : Prop where
  bar : h'.bar = h.bar
  len : h.ob.length ≤ h'.ob.length
  low : ∀ o, o < h.bar → h'.ob[o]? = h.ob[o]?
/-- The old rows stand. -/
structure Pre (h h' : AH) : Prop where
  len : h.ob.length ≤ h'.ob.length
  old : ∀ o, o < h.ob.length → h'.ob[o]? = h.ob[o]?
theorem Low.refl (h : AH) : Low h h := ⟨rfl, Nat.le_refl _, fun _ _ => rfl⟩
theorem Low.trans {a b c : AH} (x : Low a b) (y : Low b c) : Low a c :=
  ⟨y.bar.trans x.bar, Nat.le_trans x.len y.len, fun o ho => by rw [y.low o (by rw [x.bar]; exact ho), x.low o ho]⟩
theorem Pre.refl (h : AH) : Pre h h := ⟨Nat.le_refl _, fun _ _ => rfl⟩
theorem Pre.trans {a b c : AH} (x : Pre a b) (y : Pre b c) : Pre a c :=
  ⟨Nat.le_trans x.len y.len, fun o ho => by rw [y.old o (Nat.lt_of_lt_of_le ho x.len), x.old o ho]⟩
theorem Pre.mkO (h : AH) (z : Nat) (cs : List Value) : Pre h (mkO h z cs) := ⟨by simp [Am.mkO], fun o ho => by simp [Am.mkO, List.getElem?_append_left ho]⟩
/-- A table of calls is determinate. -/
structure Sure (C : CT) : Prop where
  one : ∀ f args Q h, h.bar ≤ h.ob.length → C f args Q h → ∃ v h', Q v h' ∧ Low h h' ∧ ∀ Q' : Value → AH → Prop, Q' v h' → C f args Q' h

section
variable {C : CT} {fr fr2 : Fr} {h : AH} {K : TV → Fr → AH → Prop}
theorem vl_congr {x : X} (e : tv fr x = tv fr2 x) : vl fr x = vl fr2 x := by unfold vl; rw [e]
theorem ad_congr {x : X} (e : tv fr x = tv fr2 x) : ad fr x = ad fr2 x := by unfold ad; rw [e]
theorem vls_congr : ∀ {l : List X}, (∀ x ∈ l, tv fr x = tv fr2 x) → vls fr l = vls fr2 l
  | [], _ => rfl
  | x :: r, e => by
    simp only [vls]
    rw [vl_congr (e x (by simp)), vls_congr fun y hy => e y (by simp [hy])]
theorem oX_congr {x : Option X} (e : ∀ y ∈ ox x, tv fr y = tv fr2 y) : oX fr x = oX fr2 x := by
  cases x with
  | none => rfl
  | some x => simp only [oX]; rw [vl_congr (e x (by simp [ox]))]
theorem partsV_congr : ∀ {l : List (Nat × Nat × X)}, (∀ x ∈ l.map (·.2.2), tv fr x = tv fr2 x) → partsV fr l = partsV fr2 l
  | [], _ => rfl
  | (o, n, x) :: r, e => by
    simp only [partsV]
    rw [vl_congr (e x (by simp)), partsV_congr fun y hy => e y (by simp at hy ⊢; exact .inr hy)]
theorem qO_same {o : AO} (e : ∀ x ∈ o.xs, tv fr x = tv fr2 x) (hb : cls o = .lread → fr.bx = fr2.bx) : qO o fr h = qO o fr2 h := by
  cases o <;> simp only [AO.xs, List.mem_cons, List.not_mem_nil, or_false, forall_eq_or_imp, forall_eq, List.mem_append] at e <;> simp only [qO]
  case mv => rw [e]
  case nilck => rw [ad_congr e]
  case pick => rw [vl_congr e.1, vl_congr e.2.1, vl_congr e.2.2]
  case load => rw [ad_congr e]
  case lload => rw [ad_congr e, hb rfl]
  case bin => rw [vl_congr e.1, vl_congr e.2]
  case eqs => rw [vl_congr e.1, vl_congr e.2]
  case beq => rw [vl_congr e.1, vl_congr e.2]
  case snil => rw [vl_congr e.1, vl_congr e.2]
  case mm => rw [vl_congr e.1, vl_congr e.2]
  case un => rw [vl_congr e]
  case conv => rw [vl_congr e]
  case same => rw [vl_congr e]
  case b2s => rw [vl_congr e]
  case fa => rw [ad_congr e]
  case fld => rw [vl_congr e]
  case ia => rw [vl_congr e.1, vl_congr e.2]
  case iaa => rw [ad_congr e.1, vl_congr e.2]
  case ixs => rw [vl_congr e.1, vl_congr e.2]
  case ixa => rw [vl_congr e.1, vl_congr e.2]
  case sls => rw [vl_congr e.1, oX_congr fun y hy => e.2 y (.inl hy), oX_congr fun y hy => e.2 y (.inr hy)]
  case sl => rw [vl_congr e.1, oX_congr fun y hy => e.2 y (.inl hy), oX_congr fun y hy => e.2 y (.inr (.inl hy)), oX_congr fun y hy => e.2 y (.inr (.inr hy))]
  case ext => rw [vl_congr e]
  case len => rw [vl_congr e]
  case slen => rw [vl_congr e]
  case mkfn => rw [vls_congr e]
  case bld => rw [partsV_congr e]

theorem qO_congr {o : AO} (e : ∀ x ∈ o.xs, tv fr x = tv fr2 x) (hb : fr.bx = fr2.bx) : qO o fr h = qO o fr2 h := qO_same e fun _ => hb
theorem wr_low {h h' : AH} {o off : Nat} {vs : List Value} (hw : wr h o off vs = some h') : Low h h' := by
  unfold wr at hw
  split at hw
  · split at hw
    · rename_i hbar
      split at hw
      · cases hw
        exact ⟨rfl, by simp, fun o' ho' => by simp only; rw [List.getElem?_set_ne (by omega)]⟩
      · cases hw
    · cases hw
  · cases hw
theorem mkO_low (h : AH) (z : Nat) (cs : List Value) (hb : h.bar ≤ h.ob.length) : Low h (mkO h z cs) :=
  ⟨rfl, by simp [Am.mkO], fun o ho => by simp only [Am.mkO]; rw [List.getElem?_append_left (by omega)]⟩
theorem kill_low (h : AH) {o : Nat} (hb : h.bar ≤ o) : Low h (kill h o) :=
  ⟨rfl, by simp [kill], fun o' ho' => by simp only [kill]; rw [List.getElem?_set_ne (by omega)]⟩

def isAct (o : AO) : Bool := match cls o with | .act _ => true | _ => false

/-- What an operation does, told of one end; another frame with the same operands sees the same. -/
structure Moves (C : CT) (o : AO) (fr : Fr) (h : AH) (v : TV) (bx : List (Nat × List Value)) (h' : AH) : Prop where
  low : Low h h'
  box : onBox o = false → bx = fr.bx
  pre : cls o = .act true → Pre h h'
  quiet : isAct o = false → h' = h ∧ qO o fr h = some v
  onb : onBox o = true → h' = h
  again : ∀ (fr2 : Fr) (h2 : AH) (K : TV → Fr → AH → Prop), (∀ x ∈ o.xs, tv fr x = tv fr2 x) → (onBox o = true ∨ cls o = .lread → fr.bx = fr2.bx) → (onBox o = false → h2 = h) →
    K v { fr2 with bx := if onBox o = true then bx else fr2.bx } (if onBox o = true then h2 else h') → wO C o fr2 K h2

theorem quiet_box {o : AO} (hq : isAct o = false) : onBox o = false := by
  cases o <;> first
    | (simp [isAct, cls] at hq; done)
    | rfl
theorem same_bx (fr : Fr) : { fr with bx := fr.bx } = fr := rfl
theorem wO_quiet {o : AO} (hq : isAct o = false) : wO C o fr K h = (match qO o fr h with | some v => K v fr h | none => False) := by
  cases o <;> first
    | (simp [isAct, cls] at hq; done)
    | rfl
theorem wO_moves (hC : Sure C) {o : AO} (hbl : h.bar ≤ h.ob.length) (hw : wO C o fr K h) : ∃ v bx h', K v { fr with bx := bx } h' ∧ Moves C o fr h v bx h' := by
  by_cases hq : isAct o = false
  · rw [wO_quiet hq] at hw
    split at hw
    · rename_i v hv
      refine ⟨v, fr.bx, h, hw, .refl h, fun _ => rfl, fun _ => .refl h, fun _ => ⟨rfl, hv⟩, fun _ => rfl, fun fr2 h2 K' e hb hh hk => ?_⟩
      have hob := quiet_box hq
      have := hh hob
      subst this
      rw [wO_quiet hq, ← qO_same e fun hl => hb (.inr hl), hv]
      simp only [hob, Bool.false_eq_true, if_false] at hk
      exact hk
    · exact hw.elim
  · have no : ∀ {p : Prop}, isAct o = false → p := fun h => absurd h hq
    cases o <;> try (exact absurd rfl hq)
    case lbox k x =>
      simp only [wO] at hw
      split at hw
      · rename_i v hv
        split at hw
        · rename_i hc
          refine ⟨_, (fr.box k (cl v)).bx, _, hw, .refl h, (fun h => by cases h), fun _ => .refl h, fun h => no h, fun _ => rfl, fun fr2 h2 K' e hb hh hk => ?_⟩
          have hb := hb (.inl rfl)
          simp only [AO.xs, List.mem_singleton, forall_eq] at e
          simp only [wO, ← vl_congr e, hv]
          rw [if_pos (by rw [← hb]; exact hc)]
          have e1 : fr2.gen k = fr.gen k := by simp only [Fr.gen, hb]
          have e2 : fr2.box k (cl v) = { fr2 with bx := (fr.box k (cl v)).bx } := by simp only [Fr.box, hb]
          rw [e1, e2]
          exact hk
        · exact hw.elim
      · exact hw.elim
    case lalloc k z =>
      simp only [wO] at hw
      split at hw
      · rename_i hc
        refine ⟨_, (fr.box k z).bx, _, hw, .refl h, (fun h => by cases h), fun _ => .refl h, fun h => no h, fun _ => rfl, fun fr2 h2 K' e hb hh hk => ?_⟩
        have hb := hb (.inl rfl)
        simp only [wO]
        rw [if_pos (by rw [← hb]; exact hc)]
        have e1 : fr2.gen k = fr.gen k := by simp only [Fr.gen, hb]
        have e2 : fr2.box k z = { fr2 with bx := (fr.box k z).bx } := by simp only [Fr.box, hb]
        rw [e1, e2]
        exact hk
      · exact hw.elim
    case hbox x =>
      simp only [wO] at hw
      split at hw
      · rename_i v hv
        split at hw
        · rename_i hc
          refine ⟨_, fr.bx, _, hw, mkO_low h _ _ hbl, fun _ => rfl, fun _ => .mkO h _ _, fun h => no h, (fun h => by cases h), fun fr2 h2 K' e hb hh hk => ?_⟩
          have := hh rfl
          subst this
          simp only [AO.xs, List.mem_singleton, forall_eq] at e
          simp only [wO, ← vl_congr e, hv, hc, if_true]
          exact hk
        · exact hw.elim
      · exact hw.elim
    case halloc z =>
      simp only [wO] at hw
      refine ⟨_, fr.bx, _, hw, mkO_low h _ _ hbl, fun _ => rfl, fun _ => .mkO h _ _, fun h => no h, (fun h => by cases h), fun fr2 h2 K' e hb hh hk => ?_⟩
      have := hh rfl
      subst this
      simp only [wO]
      exact hk
    case store n a x =>
      simp only [wO] at hw
      split at hw
      · rename_i o off v ha hv
        split at hw
        · rename_i hc
          split at hw
          · rename_i h' hwr
            refine ⟨_, fr.bx, _, hw, wr_low hwr, fun _ => rfl, (fun h => by cases h), fun h => no h, (fun h => by cases h), fun fr2 h2 K' e hb hh hk => ?_⟩
            have := hh rfl
            subst this
            simp only [AO.xs, List.mem_cons, List.not_mem_nil, or_false, forall_eq_or_imp, forall_eq] at e
            simp only [wO, ← vl_congr e.2, ← ad_congr e.1, ha, hv, hwr]
            rw [if_pos hc]
            exact hk
          · exact hw.elim
        · exact hw.elim
      · exact hw.elim
    case lstore n a x =>
      simp only [wO] at hw
      split at hw
      · rename_i k g off v ha hv
        split at hw
        · rename_i hc
          split at hw
          · rename_i gb cs hcs
            split at hw
            · rename_i hgb
              split at hw
              · rename_i cs' hov
                refine ⟨_, fr.bx.set k (g, cs'), _, hw, .refl h, (fun h => by cases h), fun _ => .refl h, fun h => no h, fun _ => rfl, fun fr2 h2 K' e hb hh hk => ?_⟩
                have hb := hb (.inl rfl)
                simp only [AO.xs, List.mem_cons, List.not_mem_nil, or_false, forall_eq_or_imp, forall_eq] at e
                simp only [wO, ← vl_congr e.2, ← ad_congr e.1, ha, hv]
                rw [if_pos hc, ← hb, hcs]
                simp only [hgb, if_true, hov]
                rw [← hgb]
                exact hk
              · exact hw.elim
            · exact hw.elim
          · exact hw.elim
        · exact hw.elim
      · exact hw.elim
    case mk sz by_ z l c =>
      simp only [wO] at hw
      split at hw
      · rename_i n m hn hm
        split at hw
        · rename_i hc
          refine ⟨_, fr.bx, _, hw, mkO_low h _ _ hbl, fun _ => rfl, fun _ => .mkO h _ _, fun h => no h, (fun h => by cases h), fun fr2 h2 K' e hb hh hk => ?_⟩
          have := hh rfl
          subst this
          simp only [AO.xs, List.mem_cons, List.not_mem_nil, or_false, forall_eq_or_imp, forall_eq] at e
          simp only [wO, ← vl_congr e.2, ← vl_congr e.1, hn, hm]
          rw [if_pos hc]
          exact hk
        · exact hw.elim
      · exact hw.elim
    case bsl sz n z ps =>
      simp only [wO] at hw
      split at hw
      · rename_i pv hpv
        split at hw
        · rename_i cs hcs
          refine ⟨_, fr.bx, _, hw, mkO_low h _ _ hbl, fun _ => rfl, fun _ => .mkO h _ _, fun h => no h, (fun h => by cases h), fun fr2 h2 K' e hb hh hk => ?_⟩
          have := hh rfl
          subst this
          have e2 : partsV fr (ps.map fun p => (p.1 * sz, sz, p.2)) = partsV fr2 (ps.map fun p => (p.1 * sz, sz, p.2)) := partsV_congr fun x hx => e x (by
            simp only [AO.xs]
            simpa using hx)
          simp only [wO, ← e2, hpv, hcs]
          exact hk
        · exact hw.elim
      · exact hw.elim
    case app sz by_ s x =>
      simp only [wO] at hw
      split at hw
      · rename_i a n c b m mc hs hx
        split at hw
        · exact hw.elim
        · rename_i new hnew
          have done : ∀ {v : Value} {h' : AH}, Low h h' → K (.v v) fr h' → (∀ (fr2 : Fr) (K' : TV → Fr → AH → Prop), K' (.v v) fr2 h' → (∀ y ∈ (AO.app sz by_ s x).xs, tv fr y = tv fr2 y) → wO C (.app sz by_ s x) fr2 K' h) →
              ∃ v bx h', K v { fr with bx := bx } h' ∧ Moves C (.app sz by_ s x) fr h v bx h' := fun hl hk hag =>
            ⟨_, fr.bx, _, hk, hl, fun _ => rfl, (fun h => by cases h), fun h => no h, (fun h => by cases h), fun fr2 h2 K' e hb hh hk' => by
              have := hh rfl
              subst this
              exact hag fr2 K' hk' e⟩
          split at hw
          · rename_i hc
            refine done (.refl h) hw fun fr2 K' hk e => ?_
            simp only [AO.xs, List.mem_cons, List.not_mem_nil, or_false, forall_eq_or_imp, forall_eq] at e
            simp only [wO, ← vl_congr e.1, ← vl_congr e.2, hs, hx, hnew]
            rw [if_pos hc]
            exact hk
          · rename_i hc
            split at hw
            · rename_i hroom
              split at hw
              · refine done (.refl h) hw fun fr2 K' hk e => ?_
                simp only [AO.xs, List.mem_cons, List.not_mem_nil, or_false, forall_eq_or_imp, forall_eq] at e
                simp only [wO, ← vl_congr e.1, ← vl_congr e.2, hs, hx, hnew]
                rw [if_neg hc, if_pos hroom]
                exact hk
              · rename_i o off
                split at hw
                · rename_i h' hwr
                  refine done (wr_low hwr) hw fun fr2 K' hk e => ?_
                  simp only [AO.xs, List.mem_cons, List.not_mem_nil, or_false, forall_eq_or_imp, forall_eq] at e
                  simp only [wO, ← vl_congr e.1, ← vl_congr e.2, hs, hx, hnew]
                  rw [if_neg hc, if_pos hroom]
                  simp only [hwr]
                  exact hk
                · exact hw.elim
              · exact hw.elim
            · rename_i hroom
              split at hw
              · rename_i hfit
                split at hw
                · split at hw
                  · rename_i hn0
                    refine done (mkO_low h _ _ hbl) hw fun fr2 K' hk e => ?_
                    simp only [AO.xs, List.mem_cons, List.not_mem_nil, or_false, forall_eq_or_imp, forall_eq] at e
                    simp only [wO, ← vl_congr e.1, ← vl_congr e.2, hs, hx, hnew]
                    rw [if_neg hc, if_neg hroom, if_pos hfit, if_pos hn0]
                    exact hk
                  · exact hw.elim
                · rename_i o off
                  split at hw
                  · rename_i old z cs' hrd hob
                    split at hw
                    · rename_i hc0
                      refine done (mkO_low h _ _ hbl) hw fun fr2 K' hk e => ?_
                      simp only [AO.xs, List.mem_cons, List.not_mem_nil, or_false, forall_eq_or_imp, forall_eq] at e
                      simp only [wO, ← vl_congr e.1, ← vl_congr e.2, hs, hx, hnew]
                      rw [if_neg hc, if_neg hroom, if_pos hfit]
                      simp only [hrd, hob]
                      rw [if_pos hc0]
                      exact hk
                    · rename_i hc0
                      split at hw
                      · rename_i hcond
                        refine done ((kill_low h hcond.1).trans (mkO_low _ _ _ (by simpa [kill] using hbl))) hw fun fr2 K' hk e => ?_
                        simp only [AO.xs, List.mem_cons, List.not_mem_nil, or_false, forall_eq_or_imp, forall_eq] at e
                        simp only [wO, ← vl_congr e.1, ← vl_congr e.2, hs, hx, hnew]
                        rw [if_neg hc, if_neg hroom, if_pos hfit]
                        simp only [hrd, hob]
                        rw [if_neg hc0, if_pos hcond]
                        exact hk
                      · exact hw.elim
                  · exact hw.elim
                · exact hw.elim
              · exact hw.elim
      · exact hw.elim
    case call f args bar =>
      simp only [wO] at hw
      split at hw
      · rename_i vs hvs
        cases bar with
        | true =>
          simp only [if_true] at hw
          obtain ⟨v, h', hk, hl, hag⟩ := hC.one _ _ _ _ (Nat.le_refl _) hw
          refine ⟨_, fr.bx, _, hk, ⟨rfl, hl.len, fun o ho => hl.low o (Nat.lt_of_lt_of_le ho hbl)⟩, fun _ => rfl, fun _ => ⟨hl.len, hl.low⟩, fun h => no h, (fun h => by cases h), fun fr2 h2 K' e hb hh hk' => ?_⟩
          have := hh rfl
          subst this
          have e' : ∀ x ∈ args, tv fr x = tv fr2 x := e
          simp only [wO, ← vls_congr e', hvs, if_true]
          refine hag _ ?_
          exact hk'
        | false =>
          simp only [Bool.false_eq_true, if_false] at hw
          obtain ⟨v, h', hk, hl, hag⟩ := hC.one _ _ _ _ hbl hw
          refine ⟨_, fr.bx, _, hk, hl, fun _ => rfl, (fun h => by cases h), fun h => no h, (fun h => by cases h), fun fr2 h2 K' e hb hh hk' => ?_⟩
          have := hh rfl
          subst this
          have e' : ∀ x ∈ args, tv fr x = tv fr2 x := e
          simp only [wO, ← vls_congr e', hvs, Bool.false_eq_true, if_false]
          refine hag _ ?_
          exact hk'
      · exact hw.elim
    case callv g args bar =>
      simp only [wO] at hw
      split at hw
      · rename_i f first cap vs hg hvs
        split at hw
        case isFalse => exact hw.elim
        rename_i hfs
        cases bar with
        | true =>
          simp only [if_true] at hw
          obtain ⟨v, h', hk, hl, hag⟩ := hC.one _ _ _ _ (Nat.le_refl _) hw
          refine ⟨_, fr.bx, _, hk, ⟨rfl, hl.len, fun o ho => hl.low o (Nat.lt_of_lt_of_le ho hbl)⟩, fun _ => rfl, fun _ => ⟨hl.len, hl.low⟩, fun h => no h, (fun h => by cases h), fun fr2 h2 K' e hb hh hk' => ?_⟩
          have := hh rfl
          subst this
          simp only [AO.xs, List.mem_cons, forall_eq_or_imp] at e
          simp only [wO, ← vl_congr e.1, ← vls_congr e.2, hg, hvs, hfs, if_true]
          refine hag _ ?_
          exact hk'
        | false =>
          simp only [Bool.false_eq_true, if_false] at hw
          obtain ⟨v, h', hk, hl, hag⟩ := hC.one _ _ _ _ hbl hw
          refine ⟨_, fr.bx, _, hk, hl, fun _ => rfl, (fun h => by cases h), fun h => no h, (fun h => by cases h), fun fr2 h2 K' e hb hh hk' => ?_⟩
          have := hh rfl
          subst this
          simp only [AO.xs, List.mem_cons, forall_eq_or_imp] at e
          simp only [wO, ← vl_congr e.1, ← vls_congr e.2, hg, hvs, hfs, if_true, Bool.false_eq_true, if_false]
          refine hag _ ?_
          exact hk'
      · exact hw.elim
end
end Am
end Go.Proofs.YtfhlblclcdhbiaaGreatDoor
namespace Go.Proofs.YtfhlblclcdhbiaaGreatDoor
open Go
set_option linter.unusedVariables false
set_option linter.unusedSimpArgs false
namespace Am
section
variable {C : CT}
theorem Low.fit {h h' : AH} (l : Low h h') (hb : h.bar ≤ h.ob.length) : h'.bar ≤ h'.ob.length := by have := l.bar; have := l.len; omega
theorem wO_one (hC : Sure C) {o : AO} {fr : Fr} {h : AH} {K : TV → Fr → AH → Prop} (hb : h.bar ≤ h.ob.length) (hw : wO C o fr K h) :
    ∃ v fr' h', K v fr' h' ∧ Low h h' ∧ ∀ K' : TV → Fr → AH → Prop, K' v fr' h' → wO C o fr K' h := by
  obtain ⟨v, bx, h', hk, hm⟩ := wO_moves hC hb hw
  refine ⟨v, _, h', hk, hm.low, fun K' hk' => hm.again fr h K' (fun _ _ => rfl) (fun _ => rfl) (fun _ => rfl) ?_⟩
  by_cases hob : onBox o = true
  · have := hm.onb hob
    subst this
    simp only [hob, if_true]
    exact hk'
  · simp only [hob, Bool.false_eq_true, if_false]
    have := hm.box (by simpa using hob)
    subst this
    exact hk'
theorem wI_one (hC : Sure C) {i : AI} {fr : Fr} {h : AH} {K : Fr → AH → Prop} (hb : h.bar ≤ h.ob.length) (hw : wI C i K fr h) :
    ∃ fr' h', K fr' h' ∧ Low h h' ∧ ∀ K' : Fr → AH → Prop, K' fr' h' → wI C i K' fr h := by
  unfold wI at hw
  split at hw
  · rename_i hg
    obtain ⟨v, fr', h', hk, hl, ha⟩ := wO_one hC hb hw
    refine ⟨_, _, hk, hl, fun K' hk' => ?_⟩
    unfold wI
    rw [hg]
    exact ha _ hk'
  · rename_i g b hg
    split at hw
    · rename_i t ht
      split at hw
      · rename_i htb
        obtain ⟨v, fr', h', hk, hl, ha⟩ := wO_one hC hb hw
        refine ⟨_, _, hk, hl, fun K' hk' => ?_⟩
        unfold wI
        rw [hg]
        simp only [ht]
        rw [if_pos htb]
        exact ha _ hk'
      · rename_i htb
        refine ⟨_, _, hw, .refl h, fun K' hk' => ?_⟩
        unfold wI
        rw [hg]
        simp only [ht]
        rw [if_neg htb]
        exact hk'
    · rename_i vs ht
      refine ⟨_, _, hw, .refl h, fun K' hk' => ?_⟩
      unfold wI
      rw [hg]
      simp only [ht]
      exact hk'
    · exact hw.elim
theorem wIs_one (hC : Sure C) : ∀ {l : List AI} {fr : Fr} {h : AH} {K : Fr → AH → Prop}, h.bar ≤ h.ob.length → wIs C l K fr h →
    ∃ fr' h', K fr' h' ∧ Low h h' ∧ ∀ K' : Fr → AH → Prop, K' fr' h' → wIs C l K' fr h
  | [], fr, h, K, hb, hw => ⟨fr, h, hw, .refl h, fun _ hk => hk⟩
  | i :: l, fr, h, K, hb, hw => by
    simp only [wIs] at hw
    obtain ⟨fr1, h1, hk1, hl1, ha1⟩ := wI_one hC hb hw
    obtain ⟨fr2, h2, hk2, hl2, ha2⟩ := wIs_one hC (hl1.fit hb) hk1
    exact ⟨fr2, h2, hk2, hl1.trans hl2, fun K' hk' => ha1 _ (ha2 K' hk')⟩
theorem wC_one (hC : Sure C) : ∀ (c : AC) {Q : Ex → Fr → AH → Prop} {fr : Fr} {h : AH}, h.bar ≤ h.ob.length → wC C c Q fr h →
    ∃ e fr' h', Q e fr' h' ∧ Low h h' ∧ ∀ Q' : Ex → Fr → AH → Prop, Q' e fr' h' → wC C c Q' fr h := by
  intro c
  induction c with
  | skip => intro Q fr h hb hw; exact ⟨_, _, _, hw, .refl h, fun _ hk => hk⟩
  | reg ops ds =>
    intro Q fr h hb hw
    obtain ⟨fr', h', hk, hl, ha⟩ := wIs_one hC hb hw
    exact ⟨_, _, _, hk, hl, fun Q' hk' => ha _ hk'⟩
  | seq a b iha ihb =>
    intro Q fr h hb hw
    obtain ⟨e, fr1, h1, hk1, hl1, ha1⟩ := iha hb hw
    cases e with
    | normal =>
      obtain ⟨e2, fr2, h2, hk2, hl2, ha2⟩ := ihb (hl1.fit hb) hk1
      exact ⟨e2, fr2, h2, hk2, hl1.trans hl2, fun Q' hk' => ha1 _ (ha2 Q' hk')⟩
    | exit id => exact ⟨.exit id, fr1, h1, hk1, hl1, fun Q' hk' => ha1 _ hk'⟩
    | ret => exact ⟨.ret, fr1, h1, hk1, hl1, fun Q' hk' => ha1 _ hk'⟩
  | cond x a b iha ihb =>
    intro Q fr h hb hw
    simp only [wC] at hw
    split at hw
    · rename_i t ht
      cases t with
      | true =>
        obtain ⟨e, fr1, h1, hk1, hl1, ha1⟩ := iha hb hw
        exact ⟨e, fr1, h1, hk1, hl1, fun Q' hk' => by simp only [wC, ht, if_true]; exact ha1 _ hk'⟩
      | false =>
        obtain ⟨e, fr1, h1, hk1, hl1, ha1⟩ := ihb hb (by simpa using hw)
        exact ⟨e, fr1, h1, hk1, hl1, fun Q' hk' => by simp only [wC, ht, Bool.false_eq_true, if_false]; exact ha1 _ hk'⟩
    · exact hw.elim
  | block id a iha =>
    intro Q fr h hb hw
    obtain ⟨e, fr1, h1, hk1, hl1, ha1⟩ := iha hb hw
    cases e with
    | normal => exact ⟨.normal, fr1, h1, hk1, hl1, fun Q' hk' => ha1 _ hk'⟩
    | exit i =>
      by_cases hi : i = id
      · simp only [hi, if_true] at hk1
        exact ⟨.normal, fr1, h1, hk1, hl1, fun Q' hk' => ha1 _ (by simp only [hi, if_true]; exact hk')⟩
      · simp only [hi, if_false] at hk1
        exact ⟨.exit i, fr1, h1, hk1, hl1, fun Q' hk' => ha1 _ (by simp only [hi, if_false]; exact hk')⟩
    | ret => exact ⟨.ret, fr1, h1, hk1, hl1, fun Q' hk' => ha1 _ hk'⟩
  | loop a iha =>
    intro Q fr h hb hw
    refine hw (fun fr h => h.bar ≤ h.ob.length → ∃ e fr' h', Q e fr' h' ∧ Low h h' ∧ ∀ Q' : Ex → Fr → AH → Prop, Q' e fr' h' → wC C (.loop a) Q' fr h) ?_ hb
    intro fr h hw hb
    obtain ⟨e, fr1, h1, hk1, hl1, ha1⟩ := iha hb hw
    have again : ∀ Q' : Ex → Fr → AH → Prop, (match e with | .normal => wC C (.loop a) Q' fr1 h1 | e => Q' e fr1 h1) → wC C (.loop a) Q' fr h := by
      intro Q' hk I hI
      refine hI _ _ (ha1 _ ?_)
      cases e with
      | normal => exact hk I hI
      | exit id => exact hk
      | ret => exact hk
    cases e with
    | normal =>
      obtain ⟨e2, fr2, h2, hk2, hl2, ha2⟩ := hk1 (hl1.fit hb)
      exact ⟨e2, fr2, h2, hk2, hl1.trans hl2, fun Q' hk' => again Q' (ha2 Q' hk')⟩
    | exit id => exact ⟨.exit id, fr1, h1, hk1, hl1, fun Q' hk' => again Q' hk'⟩
    | ret => exact ⟨.ret, fr1, h1, hk1, hl1, fun Q' hk' => again Q' hk'⟩
  | exit id => intro Q fr h hb hw; exact ⟨_, _, _, hw, .refl h, fun _ hk => hk⟩
  | ret => intro Q fr h hb hw; exact ⟨_, _, _, hw, .refl h, fun _ hk => hk⟩
end
end Am
end Go.Proofs.YtfhlblclcdhbiaaGreatDoor
namespace Go.Proofs.YtfhlblclcdhbiaaGreatDoor
open Go
set_option linter.unusedVariables false
set_option linter.unusedSimpArgs false
namespace Am
/-- A call, of a function that is told or of one that the model itself answers. -/
def CallsF (P : Program) (f : FuncId) (args : Array Value) (w : World) (R : Ending → World → Prop) : Prop :=
  ((callFunc f args).run P w = .ok (.enter f args) w ∧ Calls P f args w R) ∨ ∃ u w', (callFunc f args).run P w = .ok (.value u) w' ∧ R (.returned u) w'
/-- What a call comes to, in the model, in every world that the abstract heap tells of. -/
def Ret (B0 : Nat) (β : Bt) (h : AH) (w : World) (v : Value) (h' : AH) : Ending → World → Prop
  | .returned u, w' => ∃ β', RH B0 β' h' w' ∧ Step β h w β' h' w' ∧ VR β' v u
  | _, _ => False
def YC (P : Program) (B0 : Nat) : CT := fun f args Q h => h.bar ≤ h.ob.length →
  ∃ v h', Q v h' ∧ Low h h' ∧ ∀ β w (args' : List Value), RH B0 β h w → A2 (VR β) args args' → CallsF P f args'.toArray w (Ret B0 β h w v h')
theorem YC.sure (P : Program) (B0 : Nat) : Sure (YC P B0) where
  one := fun f args Q h hb hy => let ⟨v, h', hq, hl, hc⟩ := hy hb; ⟨v, h', hq, hl, fun Q' hq' _ => ⟨v, h', hq', hl, hc⟩⟩
section
variable {P : Program} {B0 nt : Nat} {β0 β : Bt} {h0 h : AH} {w0 w : World} {lam : Lam} {fr : Fr} {act : Act} {K : TV → Fr → AH → Prop} {H : Hint} {draw : Bool}

theorem RH.raise (hr : RH B0 β h w) : RH B0 β { h with bar := h.ob.length } w where
  dom := hr.dom
  cell := hr.cell
  blk := hr.blk
  ro := fun o e he how => ⟨hr.dom o e he, (hr.ro o e he how).2⟩
  inj := hr.inj
  b0 := hr.b0
  bar := Nat.le_refl _
theorem lower {β' : Bt} {h' : AH} {w' : World} (hr0 : RH B0 β h w) (hs : Step β { h with bar := h.ob.length } w β' h' w') (hr : RH B0 β' h' w') :
    Step β h w β' { h' with bar := h.bar } w' ∧ RH B0 β' { h' with bar := h.bar } w' := by
  have alo : ∀ o, alive { h with bar := h.ob.length } o → alive h o := fun _ h => h
  refine ⟨⟨hs.sub, ?_, ?_, hs.size, hs.os, hs.tape, hs.output, rfl, hs.len, fun o ho => hs.low o (by have := hr0.bar; simp; omega), hs.dead⟩, ⟨hr.dom, hr.cell, hr.blk, ?_, hr.inj, hr.b0, by have := hs.len; have := hr0.bar; simp at *; omega⟩⟩
  · intro o e he hn
    obtain ⟨h1, h2, h3⟩ := hs.new o e he hn
    refine ⟨h1, h2, ?_⟩
    rcases h3 with h3 | ⟨o1, e1, g1, g2, g3, g4, g5⟩
    · exact .inl h3
    · exact .inr ⟨o1, e1, g1, g2, by have := hr0.bar; simp at g3; omega, alo _ g4, g5⟩
  · intro b hb hn
    refine hs.keep b hb fun o e he how hbar hal => ?_
    have := (alo _ hal).lt
    simp at hbar
    omega
  · intro o e he how
    cases hb : β o with
    | none => obtain ⟨_, h2, _⟩ := hs.new o e he hb; rw [how] at h2; cases h2
    | some e' =>
      have := hs.sub _ _ hb
      rw [he] at this
      cases this
      exact hr0.ro o e hb how
theorem St.called (hs : St B0 β0 h0 w0 nt β lam fr h act.tmps w) (d0 : ∀ o e, β0 o = some e → o < h0.ob.length) {β' : Bt} {h' : AH} {w' : World} (hr : RH B0 β' h' w') (hst : Step β h w β' h' w') :
    St B0 β0 h0 w0 nt β' lam fr h' act.tmps w' := by
  refine ⟨hs.step.trans hst d0, hr, hs.frr.mono hst.sub fun _ _ h => h, ?_, hs.size⟩
  have hbx : ∀ (k b : Nat), blk lam k = some b → w'.heap[b]? = w.heap[b]? := fun k b hk =>
    hst.keep b (hs.bxr.lt hk) fun o e he how _ _ => hs.bxr.apart k b hk o e he how
  refine (hs.bxr.mono hst.sub ?_).world hbx
  intro k b hk o e he how
  cases hb : β o with
  | some e' =>
    have := hst.sub _ _ hb
    rw [he] at this
    cases this
    exact hs.bxr.apart k b hk o e hb how
  | none =>
    obtain ⟨_, _, hx⟩ := hst.new o e he hb
    rcases hx with hx | ⟨o1, e1, g1, g2, g3, g4, g5⟩
    · have := hs.bxr.lt hk; omega
    · rw [← g5]; exact hs.bxr.apart k b hk o1 e1 g1 g2

theorem upon_callsF {o : Oper} {f : FuncId} {args : Array Value} {next : Act → World → Prop} {Q : Exit → Act → World → Prop} {R : Ending → World → Prop}
    (hc : CallsF P f args w R) (hR : ∀ e w', R e w' → ∃ u, e = .returned u ∧ next (act.put o.dst u) w') : o.upon P act next Q ((callFunc f args).run P w) := by
  rcases hc with ⟨h1, h2⟩ | ⟨u, w', h1, h2⟩
  · rw [h1, Oper.upon_enter]
    refine Calls.mono h2 fun e w' he => ?_
    obtain ⟨u, rfl, hn⟩ := hR e w' he
    exact hn
  · rw [h1, Oper.upon_value]
    obtain ⟨u', he, hn⟩ := hR _ _ h2
    cases he
    exact hn

theorem a_callF (hs : St B0 β0 h0 w0 nt β lam fr h act.tmps w) (d0 : ∀ o e, β0 o = some e → o < h0.ob.length) {f : FuncId} {vs args' : List Value} (hargs : A2 (VR β) vs args') {b : Bool}
    (hw : if b then YC P B0 f vs (fun v h' => K (.v v) fr { h' with bar := h.bar }) { h with bar := h.ob.length } else YC P B0 f vs (fun v h' => K (.v v) fr h') h)
    {o : Oper} {next : Act → World → Prop} {Q : Exit → Act → World → Prop}
    (hn : ∀ v fr' h' β' lam' v' w', K v fr' h' → St B0 β0 h0 w0 nt β' lam' fr' h' act.tmps w' → TR β' lam' v v' → next (act.put o.dst v') w') :
    o.upon P act next Q ((callFunc f args'.toArray).run P w) := by
  cases b with
  | true =>
    simp only [if_true] at hw
    obtain ⟨v, h', hk, _, hc⟩ := hw (Nat.le_refl _)
    refine upon_callsF (hc β w args' hs.rh.raise hargs) fun e w' he => ?_
    cases e with
    | returned u =>
      obtain ⟨β', h1, h2, h3⟩ := he
      obtain ⟨h4, h5⟩ := lower hs.rh h2 h1
      exact ⟨u, rfl, hn _ _ _ _ _ _ _ hk (hs.called d0 h5 h4) (.v h3)⟩
    | _ => exact he.elim
  | false =>
    simp only [Bool.false_eq_true, if_false] at hw
    obtain ⟨v, h', hk, _, hc⟩ := hw hs.rh.bar
    refine upon_callsF (hc β w args' hs.rh hargs) fun e w' he => ?_
    cases e with
    | returned u =>
      obtain ⟨β', h1, h2, h3⟩ := he
      exact ⟨u, rfl, hn _ _ _ _ _ _ _ hk (hs.called d0 h1 h2) (.v h3)⟩
    | _ => exact he.elim

theorem a_acts {o : Oper} {s : Sem Next} (hs : Acts P B0 β0 h0 w0 nt act.tmps w s K) {next : Act → World → Prop} {Q : Exit → Act → World → Prop}
    (hn : ∀ v fr' h' β' lam' v' w', K v fr' h' → St B0 β0 h0 w0 nt β' lam' fr' h' act.tmps w' → TR β' lam' v v' → next (act.put o.dst v') w') :
    o.upon P act next Q (s.run P w) := by
  obtain ⟨v, fr', h', hk, β', lam', v', w', hrun, hst, htr⟩ := hs
  rcases hrun with hrun | ⟨hrun, rfl⟩
  · rw [hrun, Oper.upon_value]; exact hn _ _ _ _ _ _ _ hk hst htr
  · rw [hrun, Oper.upon_skip]; exact hn _ _ _ _ _ _ _ hk hst htr

theorem cB_quiet {op : BinOp} {t : TypeId} {x y : X} {a : AO} (hc : cB P op t x y = some a) : isAct a = false := by
  have hE : ∀ {g : Bool} {op : BinOp} {a : AO}, cE P g op t x y = some a → isAct a = false := by
    intro g op a hc
    unfold cE at hc
    split at hc
    · cases hc; rfl
    · cases hc; rfl
    · cases hc; rfl
    · cases hc; rfl
    · split at hc
      · cases hc
      · split at hc
        · cases hc; rfl
        · cases hc
    · cases hc
  unfold cB at hc
  split at hc
  · exact hE hc
  · exact hE hc
  · split at hc
    · cases hc; rfl
    · cases hc; rfl
    · cases hc

set_option maxHeartbeats 1000000 in
theorem call_sound (hs : St B0 β0 h0 w0 nt β lam fr h act.tmps w) (d0 : ∀ o e, β0 o = some e → o < h0.ob.length) {c : Call} {ty : TypeId} {a : AO} (hc : cCall P draw c = some a) (hq : ¬ isAct a = false) (hw : wO (YC P B0) a fr K h)
    {o : Oper} {next : Act → World → Prop} {Q : Exit → Act → World → Prop}
    (hn : ∀ v fr' h' β' lam' v' w', K v fr' h' → St B0 β0 h0 w0 nt β' lam' fr' h' act.tmps w' → TR β' lam' v v' → next (act.put o.dst v') w') :
    o.upon P act next Q ((do let d ← resolve act.eval c ty; invoke d.target d.args : Sem Next).run P w) := by
  unfold cCall at hc
  split at hc
  · rename_i f hcal
    split at hc
    · rename_i l hl
      cases hc
      simp only [wO] at hw
      split at hw
      · rename_i vs hvs
        have hargs := vls_sound hs.frr hl hvs
        have key := a_callF (P := P) hs d0 hargs hw (o := o) (next := next) (Q := Q) hn
        have e : (c.args.map act.eval) = (c.args.toList.map act.eval).toArray := by apply Array.ext'; simp
        simpa [resolve, hcal, Deferred.ofValue, Act.eval, invoke, e] using key
      · exact hw.elim
    · cases hc
  · rename_i g hnf hcal
    split at hc
    · rename_i a' l ha hl
      cases hc
      simp only [wO] at hw
      split at hw
      · rename_i f first cap vs hg hvs
        split at hw
        · rename_i hfs
          have hargs := vls_sound hs.frr hl hvs
          have hfe : first = #[] := Array.eq_empty_of_size_eq_zero hfs
          subst hfe
          obtain ⟨cap', hge, hcap⟩ := vr_func (vl_sound hs.frr ha hg)
          have key := a_callF (P := P) hs d0 (hargs.append (hcap.imp fun _ _ h => VR.base h)) hw (o := o) (next := next) (Q := Q) hn
          have e : (c.args.map act.eval) = (c.args.toList.map act.eval).toArray := by apply Array.ext'; simp
          have e2 : (c.args.toList.map act.eval).toArray ++ cap' = (c.args.toList.map act.eval ++ cap'.toList).toArray := by apply Array.ext'; simp
          simp only [resolve, hcal, hge, Deferred.ofValue, Sem.run_bind, Sem.run_pure, Result.andThen_ok, invoke, Array.empty_append, e, e2]
          exact key
        · exact hw.elim
      · exact hw.elim
    · cases hc
  · split at hc
    · split at hc
      · cases hc; exact absurd rfl hq
      · cases hc; exact absurd rfl hq
      · cases hc
    · cases hc
  · rename_i hcal
    split at hc
    · rename_i s x t u hx ht
      split at hc
      · rename_i e e2 a' b' he hu ha hb
        split at hc
        · rename_i n m z hn' hm hz
          split at hc
          · rename_i hcond
            cases hc
            have e1 : c.args.map act.eval = #[act.eval s, act.eval x] := by apply Array.ext'; simp [hx]
            have e2' : c.argTypes = #[t, u] := by apply Array.ext'; simpa using ht
            have := a_app (ty := ty) hs d0 he hu hn' hm hz hcond.1 hcond.2.1 ha hb hw
            have key := a_acts (o := o) (next := next) (Q := Q) this hn
            simpa [resolve, hcal, invoke, builtin, e1, e2'] using key
          · cases hc
        · cases hc
      · cases hc
    · cases hc
  · split at hc
    · split at hc
      · cases hc; exact absurd rfl hq
      · cases hc
    · cases hc
  · split at hc
    · split at hc
      · cases hc; exact absurd rfl hq
      · cases hc
    · cases hc
  · cases hc
end
end Am
end Go.Proofs.YtfhlblclcdhbiaaGreatDoor
namespace Go.Proofs.YtfhlblclcdhbiaaGreatDoor
open Go
set_option linter.unusedVariables false
set_option linter.unusedSimpArgs false
namespace Am
section
variable {P : Program} {B0 nt : Nat} {β0 β : Bt} {h0 h : AH} {w0 w : World} {lam : Lam} {fr : Fr} {act : Act} {K : TV → Fr → AH → Prop} {H : Hint} {draw : Bool}

set_option maxHeartbeats 2000000 in
theorem o_acts (hs : St B0 β0 h0 w0 nt β lam fr h act.tmps w) (d0 : ∀ o e, β0 o = some e → o < h0.ob.length) (b00 : B0 ≤ w0.heap.size) {o : Oper} {a : AO} (hc : cO P H draw o = some a) (hq : ¬ isAct a = false) (hw : wO (YC P B0) a fr K h)
    {next : Act → World → Prop} {Q : Exit → Act → World → Prop}
    (hn : ∀ v fr' h' β' lam' v' w', K v fr' h' → St B0 β0 h0 w0 nt β' lam' fr' h' act.tmps w' → TR β' lam' v v' → next (act.put o.dst v') w') :
    o.upon P act next Q ((execOp act.eval o).run P w) := by
  unfold cO at hc
  unfold execOp
  split at hc <;> rename_i heq <;> simp only [heq]
  case h_4 => -- pick
    repeat' split at hc
    all_goals first
      | (cases hc; done)
      | (cases hc; exact absurd rfl hq)
  case h_5 t =>
    split at hc
    · rename_i z hz
      split at hc
      · cases hc
        exact a_acts (a_lalloc hs hz hw) hn
      · cases hc
        exact a_acts (a_halloc hs hz hw) hn
    · cases hc
  case h_6 t x =>
    split at hc
    · rename_i a' hx
      split at hc
      · cases hc
        exact a_acts (a_lbox hs hx hw) hn
      · cases hc
        exact a_acts (a_hbox hs hx hw) hn
    · cases hc
  case h_8 t p x =>
    split at hc
    · rename_i n a' v hsz hp hx
      simp only [Option.some.injEq] at hc
      subst hc
      split at hw
      · exact a_acts (a_lstore hs b00 hsz hp hx hw) hn
      · exact a_acts (a_store hs d0 hsz hp hx hw) hn
    · cases hc
  case h_9 op xt x y z =>
    split at hc
    · exact absurd (cB_quiet hc) hq
    · cases hc
  case h_16 t l c =>
    split at hc
    · rename_i e a' b' he hl hcx
      split at hc
      · rename_i n m z hn' hm hz
        split at hc
        · rename_i hcond
          cases hc
          exact a_acts (a_mk hs he hn' hm hz hcond.1 hcond.2 hl hcx hw) hn
        · cases hc
      · cases hc
    · cases hc
  case h_21 t n parts =>
    split at hc
    · rename_i e he
      split at hc
      · rename_i s z l hsz hz hl
        split at hc
        · rename_i hcond
          cases hc
          exact a_acts (a_bsl hs he hsz hz hcond.1 hcond.2.1 hcond.2.2 hl hw) hn
        · cases hc
      · cases hc
    · cases hc
  case h_22 c => exact call_sound hs d0 hc hq hw hn
  all_goals
    repeat' split at hc
    all_goals first
      | (cases hc; done)
      | (simp only [Option.some.injEq] at hc; subst hc; (try split at hq) <;> exact absurd rfl hq)
theorem o_sound (hs : St B0 β0 h0 w0 nt β lam fr h act.tmps w) (d0 : ∀ o e, β0 o = some e → o < h0.ob.length) (b00 : B0 ≤ w0.heap.size) {o : Oper} {a : AO} (hc : cO P H draw o = some a) (hw : wO (YC P B0) a fr K h)
    {next : Act → World → Prop} {Q : Exit → Act → World → Prop}
    (hn : ∀ v fr' h' β' lam' v' w', K v fr' h' → St B0 β0 h0 w0 nt β' lam' fr' h' act.tmps w' → TR β' lam' v v' → next (act.put o.dst v') w') :
    o.wp P act w next Q := by
  unfold Oper.wp
  by_cases hq : isAct a = false
  · rw [wO_quiet hq] at hw
    split at hw
    · rename_i v hv
      obtain ⟨u, hu, hr⟩ := q_sound hs.at_ hc hv
      rw [hu, Oper.upon_value]
      exact hn _ _ _ _ _ _ _ hw hs hr
    · exact hw.elim
  · exact o_acts hs d0 b00 hc hq hw hn

theorem look_put (tm : List (Nat × TV)) (n m : Nat) (v : TV) : look (Am.put tm n v) m = if m = n then some v else look tm m := by
  simp only [Am.put, look_cons, eq_comm]
theorem St.put {tmps : Array Value} (hs : St B0 β0 h0 w0 nt β lam fr h tmps w) {d : Option Nat} (hd : ∀ n, d = some n → n < nt) {v : TV} {u : Value} (hr : TR β lam v u) {ds : List Deferred} :
    St B0 β0 h0 w0 nt β lam (fr.put d v) h (({ tmps := tmps, defers := ds } : Act).put d u).tmps w := by
  cases d with
  | none => exact hs
  | some n =>
    refine ⟨hs.step, hs.rh, ?_, hs.bxr, by simp [Act.put, hs.size]⟩
    intro m tvx hx
    simp only [Fr.put, look_put] at hx
    have hlt : n < tmps.size := by rw [hs.size]; exact hd n rfl
    by_cases hm : m = n
    · subst hm
      rw [if_pos rfl] at hx
      cases hx
      simpa [Act.put, Array.getD, hlt] using hr
    · rw [if_neg hm] at hx
      have := hs.frr m tvx hx
      have e : (({ tmps := tmps, defers := ds } : Act).put (some n) u).tmps.getD m undef = tmps.getD m undef := by
        simp only [Act.put, Array.getD_eq_getD_getElem?]
        rw [Array.getElem?_setIfInBounds_ne (Ne.symm hm)]
      rw [e]
      exact this
theorem look_keep {tm : List (Nat × TV)} : ∀ {ks : List Nat} {n : Nat} {v : TV}, look (keepL tm ks) n = some v → look tm n = some v
  | [], n, v, h => by simp [keepL, look] at h
  | k :: ks, n, v, h => by
    simp only [keepL] at h
    split at h
    · rename_i u hu
      rw [look_cons] at h
      by_cases hk : k = n
      · rw [if_pos hk] at h
        cases h
        rw [← hk]
        exact hu
      · rw [if_neg hk] at h
        exact look_keep h
    · exact look_keep h
theorem St.keep {tmps : Array Value} (hs : St B0 β0 h0 w0 nt β lam fr h tmps w) (ks : List Nat) : St B0 β0 h0 w0 nt β lam (keepT fr ks) h tmps w :=
  ⟨hs.step, hs.rh, fun n v hv => hs.frr n v (look_keep hv), hs.bxr, hs.size⟩

/-- Some state of the model that the abstract one tells of. -/
def Here (B0 : Nat) (β0 : Bt) (h0 : AH) (w0 : World) (nt : Nat) (a : Act) (w : World) (K : Fr → AH → Prop) : Prop :=
  a.defers = [] ∧ ∃ β lam fr h, St B0 β0 h0 w0 nt β lam fr h a.tmps w ∧ K fr h

/-- an instruction, guard and all -/
theorem i_sound (hs : St B0 β0 h0 w0 nt β lam fr h act.tmps w) (hdf : act.defers = []) (d0 : ∀ o e, β0 o = some e → o < h0.ob.length) (b00 : B0 ≤ w0.heap.size) {ops : Array Oper} {o : Oper} {ai : AI} (hc : cI P H nt draw ops o = some ai) {K : Fr → AH → Prop} (hw : wI (YC P B0) ai K fr h)
    {next : Act → World → Prop} {Q : Exit → Act → World → Prop} (hn : ∀ a w, Here B0 β0 h0 w0 nt a w K → next a w) :
    if Region.wanted o (yielded ops act.tmps) then o.wp P act w next Q ∨ (o.asks P act w ∧ LetsOut Q) else next (act.put o.dst undef) w := by
  unfold cI at hc
  split at hc
  case isFalse => cases hc
  rename_i hdst
  have hd : ∀ n, o.dst = some n → n < nt := by
    intro n hn
    rw [hn] at hdst
    simpa [dstOk] using hdst
  have hput : ∀ v fr' h' β' lam' v' w', K (fr'.put o.dst v) h' → St B0 β0 h0 w0 nt β' lam' fr' h' act.tmps w' → TR β' lam' v v' → next (act.put o.dst v') w' := by
    intro v fr' h' β' lam' v' w' hk hst hr
    refine hn _ _ ⟨?_, β', lam', _, h', hst.put hd hr, hk⟩
    cases hdd : o.dst <;> simpa [Act.put] using hdf
  split at hc
  · rename_i a ha hg
    cases hc
    simp only [wI] at hw
    have hwant : Region.wanted o (yielded ops act.tmps) = true := by simp [Region.wanted, hg]
    rw [if_pos hwant]
    exact .inl (o_sound hs d0 b00 ha hw hput)
  · rename_i a j b ha hg
    split at hc
    · rename_i d hd2
      cases hc
      simp only [wI] at hw
      split at hw
      · rename_i t ht
        have hr := hs.frr d _ ht
        have hval : act.tmps.getD d undef = .bool t := by
          generalize act.tmps.getD d undef = u at hr
          cases hr with
          | v h => exact vr_bool h
        have hy : yielded ops act.tmps j = some t := by
          unfold yielded
          rw [hd2]
          simp only [Option.bind_some]
          have hlt : d < act.tmps.size := by
            rcases Nat.lt_or_ge d act.tmps.size with h | h
            · exact h
            · simp [Array.getD, Nat.not_lt.mpr h, undef] at hval
          simp only [Array.getD, hlt, dite_true] at hval
          rw [Array.getElem?_eq_getElem hlt]
          simp only [Array.getInternal_eq_getElem] at hval
          rw [hval]
        have hwant : Region.wanted o (yielded ops act.tmps) = (t == b) := by
          simp only [Region.wanted, hg, hy]
          cases t <;> cases b <;> rfl
        rw [hwant]
        by_cases htb : t = b
        · subst htb
          simp only [if_true] at hw
          simp only [beq_self_eq_true, if_true]
          exact .inl (o_sound hs d0 b00 ha hw hput)
        · rw [if_neg htb] at hw
          have : (t == b) = false := by simpa using htb
          simp only [this, Bool.false_eq_true, if_false]
          exact hput _ _ _ _ _ _ _ hw hs (.v .undef)
      · rename_i vs ht
        have hr := hs.frr d _ ht
        obtain ⟨us, hval⟩ : ∃ us, act.tmps.getD d undef = .tuple us := by
          generalize act.tmps.getD d undef = u at hr
          cases hr with
          | v h =>
            cases h with
            | w h => cases h with
              | cell h => cases h with
                | base h => cases h
            | tup h => exact ⟨_, rfl⟩
        have hy : yielded ops act.tmps j = none := by
          unfold yielded
          rw [hd2]
          simp only [Option.bind_some]
          rcases Nat.lt_or_ge d act.tmps.size with hlt | hlt
          · simp only [Array.getD, hlt, dite_true] at hval
            rw [Array.getElem?_eq_getElem hlt]
            simp only [Array.getInternal_eq_getElem] at hval
            rw [hval]
          · rw [Array.getElem?_eq_none hlt]
        have hwant : Region.wanted o (yielded ops act.tmps) = false := by
          simp only [Region.wanted, hg, hy]
          rfl
        rw [hwant]
        simp only [Bool.false_eq_true, if_false]
        exact hput _ _ _ _ _ _ _ hw hs (.v .undef)
      · exact hw.elim
    · cases hc
  · cases hc

theorem cIs_get {ops : Array Oper} : ∀ {l : List Oper} {r : List AI}, cIs P H nt draw ops l = some r → r.length = l.length ∧ ∀ (i : Nat) o, l[i]? = some o → ∃ a, r[i]? = some a ∧ cI P H nt draw ops o = some a
  | [], r, hc => by
    simp only [cIs, Option.some.injEq] at hc
    subst hc
    exact ⟨rfl, fun i o h => by simp at h⟩
  | x :: l, r, hc => by
    simp only [cIs] at hc
    split at hc
    · rename_i a r' ha hr
      cases hc
      obtain ⟨h1, h2⟩ := cIs_get hr
      refine ⟨by simp [h1], fun i o hi => ?_⟩
      cases i with
      | zero => simp at hi; subst hi; exact ⟨a, rfl, ha⟩
      | succ i => simpa using h2 i o (by simpa using hi)
    · cases hc

/-- a region in its order -/
theorem reg_sound {ops : Array Oper} {Q : Exit → Act → World → Prop} (d0 : ∀ o e, β0 o = some e → o < h0.ob.length) (b00 : B0 ≤ w0.heap.size) {K : Fr → AH → Prop} (hQ : ∀ a w, Here B0 β0 h0 w0 nt a w K → Q .normal a w) :
    ∀ (is : List Nat) (os : List Oper) (ais : List AI), is.map (ops[·]?) = os.map some → cIs P H nt draw ops os = some ais → ∀ act w, Here B0 β0 h0 w0 nt act w (wIs (YC P B0) ais K) → wpOps P ops Q is act w
  | [], [], ais, _, hc, act, w, hh => by
    simp only [cIs, Option.some.injEq] at hc
    subst hc
    exact hQ _ _ hh
  | i :: is, o :: os, ais, hm, hc, act, w, hh => by
    simp only [List.map_cons, List.cons.injEq] at hm
    simp only [cIs] at hc
    split at hc
    · rename_i a l ha hl
      cases hc
      obtain ⟨hdf, β, lam, fr, h, hst, hw⟩ := hh
      simp only [wpOps, hm.1]
      exact i_sound hst hdf d0 b00 ha hw fun a' w' hh' => reg_sound d0 b00 hQ is os l hm.2 hl a' w' hh'
    · cases hc
  | [], _ :: _, _, hm, _, _, _, _ => by simp at hm
  | _ :: _, [], _, hm, _, _, _, _ => by simp at hm
end
end Am
end Go.Proofs.YtfhlblclcdhbiaaGreatDoor

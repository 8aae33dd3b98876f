/- The abstract machine's regions, code and functions are sound; its rules. -/
import Derived.Test.YtfhlblclcdhbiaaGreatDoorCore4
namespace Go.Proofs.YtfhlblclcdhbiaaGreatDoor
open Go
set_option linter.unusedVariables false
set_option linter.unusedSimpArgs false
namespace Am
section
variable {C : CT} {fr fr2 : Fr} {h h2 : AH}
theorem rd_pre {o off n : Nat} {cs : List Value} (hp : Pre h h2) (hr : rd h o off n = some cs) : rd h2 o off n = some cs := by
  unfold rd at hr ⊢
  have hlt : o < h.ob.length := by
    rcases Nat.lt_or_ge o h.ob.length with hl | hl
    · exact hl
    · rw [List.getElem?_eq_none hl] at hr; cases hr
  rw [hp.old o hlt]
  exact hr
theorem rd_back {o off n : Nat} {cs : List Value} (hp : Pre h h2) (hlt : o < h.ob.length) (hr : rd h2 o off n = some cs) : rd h o off n = some cs := by
  unfold rd at hr ⊢
  rw [← hp.old o hlt]
  exact hr
theorem objZ_pre {o z : Nat} (hp : Pre h h2) (hr : objZ h o = some z) : objZ h2 o = some z := by
  unfold objZ at hr ⊢
  have hlt : o < h.ob.length := by
    rcases Nat.lt_or_ge o h.ob.length with hl | hl
    · exact hl
    · rw [List.getElem?_eq_none hl] at hr; cases hr
  rw [hp.old o hlt]
  exact hr
theorem objZ_back {o z : Nat} (hp : Pre h h2) (hlt : o < h.ob.length) (hr : objZ h2 o = some z) : objZ h o = some z := by
  unfold objZ at hr ⊢
  rw [← hp.old o hlt]
  exact hr
/-- what reads no heap sees no heap -/
theorem qO_heap {o : AO} (hq : isAct o = false) (hc : cls o ≠ .hread) : qO o fr h = qO o fr h2 := by
  cases o <;> first
    | (exact absurd rfl hc)
    | (simp [isAct, cls] at hq; done)
    | rfl
theorem qO_fwd {o : AO} (hp : Pre h h2) {v : TV} (hv : qO o fr h = some v) (hq : isAct o = false) : qO o fr h2 = some v := by
  by_cases hc : cls o = .hread
  · cases o <;> try (simp [cls] at hc; done)
    case load n agg a =>
      simp only [qO] at hv ⊢
      split at hv
      · rename_i o off ha
        split at hv
        · rename_i cs hcs
          split at hv
          · rename_i u hu
            cases hv
            simp only [ha, rd_pre hp hcs, hu]
          · cases hv
        · cases hv
      · cases hv
    case b2s x =>
      simp only [qO] at hv ⊢
      split at hv
      · rename_i hx; cases hv; simp only [hx]
      · rename_i o off n c hx
        split at hv
        · rename_i cs hcs
          split at hv
          · rename_i l hl
            cases hv
            simp only [hx, rd_pre hp hcs, hl]
          · cases hv
        · cases hv
      · cases hv
    case sl sz x lo hi mx =>
      simp only [qO] at hv ⊢
      split at hv
      · rename_i p n c l m t hx hlo hhi hmx
        split at hv
        · cases hv
        · rename_i c' hcap
          split at hv
          · rename_i a b hb
            split at hv
            · rename_i o off
              split at hv
              · rename_i hcond
                cases hv
                rw [if_pos]
                rcases hcond with h0 | ⟨h1, h2'⟩
                · exact .inl h0
                · exact .inr ⟨h1, objZ_pre hp h2'⟩
              · cases hv
            · exact hv
            · cases hv
          · cases hv
      · cases hv
  · rw [← qO_heap hq hc (h := h)]; exact hv
section
variable {B0 : Nat} {β : Bt} {lam : Lam} {tmps : Array Value}
theorem vl_dom {w : World} (hr : RH B0 β h w) (hf : FrR β lam fr tmps) {x : X} (hx : plainX x = true) {o off : Nat} {s : Option Nat} {n c : Nat} (hv : vl fr x = some (.slice (some ⟨o, off, s⟩) n c)) : o < h.ob.length := by
  cases x with
  | c v =>
    simp [vl, tv] at hv
    subst hv
    simp [plainX, plainV, plain0] at hx
  | t m =>
    have := hf m _ (vl_tv hv)
    generalize tmps.getD m undef = u at this
    cases this with
    | v h =>
      obtain ⟨o', off', e, c', he, _, hb, _⟩ := vr_slice h
      cases he
      exact hr.dom _ _ hb
theorem ad_dom {w : World} (hr : RH B0 β h w) (hf : FrR β lam fr tmps) {x : X} (hx : plainX x = true) {o off : Nat} (hv : ad fr x = some (.h o off)) : o < h.ob.length := by
  unfold ad at hv
  split at hv
  · cases hv
  · rename_i ht
    cases hv
    cases x with
    | c v =>
      simp [tv] at ht
      subst ht
      simp [plainX, plainV, plain0] at hx
    | t m =>
      have := hf m _ ht
      generalize tmps.getD m undef = u at this
      cases this with
      | v h => cases h with | w h => cases h with | cell h => cases h with | base h => cases h with
        | ptr h => exact hr.dom _ _ h
  · cases hv
theorem qO_back {w : World} (hr : RH B0 β h w) (hf : FrR β lam fr tmps) (hp : Pre h h2) {o : AO} (hx : cls o = .hread → o.xs.all plainX = true) {v : TV} (hv : qO o fr h2 = some v) (hq : isAct o = false) : qO o fr h = some v := by
  by_cases hc : cls o = .hread
  · have hx := hx hc
    cases o <;> try (simp [cls] at hc; done)
    case load n agg a =>
      simp only [AO.xs, List.all_cons, List.all_nil, Bool.and_true] at hx
      simp only [qO] at hv ⊢
      split at hv
      · rename_i o off ha
        split at hv
        · rename_i cs hcs
          split at hv
          · rename_i u hu
            cases hv
            simp only [ha, rd_back hp (ad_dom hr hf hx ha) hcs, hu]
          · cases hv
        · cases hv
      · cases hv
    case b2s x =>
      simp only [AO.xs, List.all_cons, List.all_nil, Bool.and_true] at hx
      simp only [qO] at hv ⊢
      split at hv
      · rename_i hx'; cases hv; simp only [hx']
      · rename_i o off n c hx'
        split at hv
        · rename_i cs hcs
          split at hv
          · rename_i l hl
            cases hv
            simp only [hx', rd_back hp (vl_dom hr hf hx hx') hcs, hl]
          · cases hv
        · cases hv
      · cases hv
    case sl sz x lo hi mx =>
      simp only [AO.xs, List.all_cons, Bool.and_eq_true] at hx
      simp only [qO] at hv ⊢
      split at hv
      · rename_i p n c l m t hx' hlo hhi hmx
        split at hv
        · cases hv
        · rename_i c' hcap
          split at hv
          · rename_i a b hb
            split at hv
            · rename_i o off
              split at hv
              · rename_i hcond
                cases hv
                rw [if_pos]
                rcases hcond with h0 | ⟨h1, h2'⟩
                · exact .inl h0
                · exact .inr ⟨h1, objZ_back hp (vl_dom hr hf hx.1 hx') h2'⟩
              · cases hv
            · exact hv
            · cases hv
          · cases hv
      · cases hv
  · rw [qO_heap hq hc (h2 := h2)]; exact hv
end

def qI (i : AI) (fr : Fr) (h : AH) : Option TV := match i.guard with
  | none => qO i.op fr h
  | some (g, b) => match look fr.tm g with
    | some (.v (.bool t)) => if t = b then qO i.op fr h else some (.v undef)
    | some (.v (.tuple _)) => some (.v undef)
    | _ => none
theorem wI_quiet {i : AI} (hq : isAct i.op = false) {K : Fr → AH → Prop} : wI C i K fr h ↔ ∃ v, qI i fr h = some v ∧ K (fr.put i.dst v) h := by
  unfold wI qI
  cases hg : i.guard with
  | none =>
    simp only
    rw [wO_quiet hq]
    cases qO i.op fr h <;> simp
  | some gb =>
    obtain ⟨g, b⟩ := gb
    simp only
    split
    · rename_i t ht
      simp only [ht]
      by_cases htb : t = b
      · simp only [htb, if_true]
        rw [wO_quiet hq]
        cases qO i.op fr h <;> simp
      · simp [htb]
    · rename_i vs ht
      simp [ht]
    · rename_i hn hn2
      have : (match look fr.tm g with
        | some (.v (.bool t)) => if t = b then qO i.op fr h else some (.v undef)
        | some (.v (.tuple _)) => some (.v undef)
        | _ => none) = none := by
        split
        · rename_i t ht; exact absurd ht (hn t)
        · rename_i vs ht; exact absurd ht (hn2 vs)
        · rfl
      constructor
      · exact False.elim
      · rintro ⟨v, hv, _⟩
        rw [this] at hv
        cases hv
/-- two frames alike for an instruction -/
def Alike (i : AI) (fr fr2 : Fr) : Prop := ∀ t ∈ i.reads, look fr.tm t = look fr2.tm t
theorem Alike.tv {i : AI} (ha : Alike i fr fr2) : ∀ x ∈ i.op.xs, tv fr x = tv fr2 x := by
  intro x hx
  cases x with
  | c v => rfl
  | t n =>
    refine ha n ?_
    simp only [AI.reads, tmpsOf, List.mem_append, List.mem_filterMap]
    exact .inl ⟨.t n, hx, rfl⟩
theorem Alike.guard {i : AI} (ha : Alike i fr fr2) {g : Nat} {b : Bool} (hg : i.guard = some (g, b)) : look fr.tm g = look fr2.tm g := by
  refine ha g ?_
  simp [AI.reads, hg]
theorem qI_same {i : AI} (ha : Alike i fr fr2) (hb : cls i.op = .lread → fr.bx = fr2.bx) : qI i fr h = qI i fr2 h := by
  unfold qI
  cases hg : i.guard with
  | none => simp only; exact qO_same ha.tv hb
  | some gb =>
    obtain ⟨g, b⟩ := gb
    simp only [ha.guard hg]
    rw [qO_same ha.tv hb]
theorem qI_fwd {i : AI} (hp : Pre h h2) {v : TV} (hq : isAct i.op = false) (hv : qI i fr h = some v) : qI i fr h2 = some v := by
  unfold qI at hv ⊢
  split at hv
  · rename_i hg; exact qO_fwd hp hv hq
  · rename_i g b hg
    split at hv
    · rename_i t ht
      split at hv
      · rename_i htb; simp only [htb, if_true]; exact qO_fwd hp hv hq
      · rename_i htb; rw [if_neg htb]; exact hv
    · exact hv
    · cases hv
theorem qI_heap {i : AI} (hq : isAct i.op = false) (hc : cls i.op ≠ .hread) : qI i fr h = qI i fr h2 := by
  unfold qI
  rw [qO_heap hq hc (h2 := h2)]
theorem qI_back {B0 : Nat} {β : Bt} {lam : Lam} {tmps : Array Value} {w : World} (hr : RH B0 β h w) (hf : FrR β lam fr tmps) (hp : Pre h h2) {i : AI} (hx : cls i.op = .hread → i.op.xs.all plainX = true) {v : TV} (hq : isAct i.op = false) (hv : qI i fr h2 = some v) : qI i fr h = some v := by
  unfold qI at hv ⊢
  split at hv
  · rename_i hg; exact qO_back hr hf hp hx hv hq
  · rename_i g b hg
    split at hv
    · rename_i t ht
      split at hv
      · rename_i htb; simp only [htb, if_true]; exact qO_back hr hf hp hx hv hq
      · rename_i htb; rw [if_neg htb]; exact hv
    · exact hv
    · cases hv
/-- what an instruction does, told of one end -/
structure MovesI (C : CT) (i : AI) (fr : Fr) (h : AH) (v : TV) (bx : List (Nat × List Value)) (h' : AH) : Prop where
  low : Low h h'
  box : onBox i.op = false → bx = fr.bx
  pre : cls i.op = .act true → Pre h h'
  quiet : isAct i.op = false → h' = h ∧ bx = fr.bx ∧ qI i fr h = some v
  onb : onBox i.op = true → h' = h
  heap : onBox i.op = false → isAct i.op = true → ∀ (fr2 : Fr) (K : Fr → AH → Prop), Alike i fr fr2 → K (fr2.put i.dst v) h' → wI C i K fr2 h
  own : onBox i.op = true → ∀ (fr2 : Fr) (h2 : AH) (K : Fr → AH → Prop), Alike i fr fr2 → fr.bx = fr2.bx → K (Fr.put { fr2 with bx := bx } i.dst v) h2 → wI C i K fr2 h2
theorem wI_moves (hC : Sure C) {i : AI} (hbl : h.bar ≤ h.ob.length) {K : Fr → AH → Prop} (hw : wI C i K fr h) :
    ∃ v bx h', K (Fr.put { fr with bx := bx } i.dst v) h' ∧ MovesI C i fr h v bx h' := by
  by_cases hq : isAct i.op = false
  · obtain ⟨v, hv, hk⟩ := (wI_quiet hq).mp hw
    refine ⟨v, fr.bx, h, hk, .refl h, fun _ => rfl, fun _ => .refl h, fun _ => ⟨rfl, rfl, hv⟩, fun _ => rfl, fun _ ha => (by rw [hq] at ha; cases ha), fun ho => (by rw [quiet_box hq] at ho; cases ho)⟩
  · have hact : isAct i.op = true := by simpa using hq
    have nolr : cls i.op ≠ .lread := by
      intro hl
      simp [isAct, hl] at hact
    have told : ∀ {v : TV} {bx : List (Nat × List Value)} {h' : AH}, K (Fr.put { fr with bx := bx } i.dst v) h' → Moves C i.op fr h v bx h' →
        (∀ (fr2 : Fr) (h2 : AH) (K : Fr → AH → Prop), Alike i fr fr2 → wO C i.op fr2 (fun v fr' h' => K (fr'.put i.dst v) h') h2 → wI C i K fr2 h2) → ∃ v bx h', K (Fr.put { fr with bx := bx } i.dst v) h' ∧ MovesI C i fr h v bx h' := by
      intro v bx h' hk hm hgo
      refine ⟨v, bx, h', hk, hm.low, hm.box, hm.pre, fun hh => absurd hh hq, hm.onb, fun hob _ fr2 K' ha hk' => hgo fr2 h K' ha (hm.again fr2 h _ ha.tv (fun hor => ?_) (fun _ => rfl) ?_), fun hob fr2 h2 K' ha hb hk' => hgo fr2 h2 K' ha (hm.again fr2 h2 _ ha.tv (fun _ => hb) (fun hn => (by rw [hob] at hn; cases hn)) ?_)⟩
      · rcases hor with hor | hor
        · rw [hob] at hor; cases hor
        · exact absurd hor nolr
      · simp only [hob, Bool.false_eq_true, if_false]
        exact hk'
      · simp only [hob, if_true]
        exact hk'
    unfold wI at hw
    split at hw
    · rename_i hg
      obtain ⟨v, bx, h', hk, hm⟩ := wO_moves hC hbl hw
      refine told hk hm fun fr2 h2 K' ha hk' => ?_
      unfold wI
      rw [hg]
      exact hk'
    · rename_i g b hg
      split at hw
      · rename_i t ht
        split at hw
        · rename_i htb
          obtain ⟨v, bx, h', hk, hm⟩ := wO_moves hC hbl hw
          refine told hk hm fun fr2 h2 K' ha hk' => ?_
          unfold wI
          rw [hg]
          simp only [← ha.guard hg, ht]
          rw [if_pos htb]
          exact hk'
        · rename_i htb
          have skip : ∀ (fr2 : Fr) (h2 : AH) (K' : Fr → AH → Prop), Alike i fr fr2 → K' (fr2.put i.dst (.v undef)) h2 → wI C i K' fr2 h2 := by
            intro fr2 h2 K' ha hk'
            unfold wI
            rw [hg]
            simp only [← ha.guard hg, ht]
            rw [if_neg htb]
            exact hk'
          refine ⟨.v undef, fr.bx, h, hw, .refl h, fun _ => rfl, fun _ => .refl h, fun hh => absurd hh hq, fun _ => rfl, fun _ _ fr2 K' ha hk' => skip fr2 h K' ha hk', fun _ fr2 h2 K' ha hb hk' => skip fr2 h2 K' ha ?_⟩
          rw [hb] at hk'
          exact hk'
      · rename_i vs ht
        have skip : ∀ (fr2 : Fr) (h2 : AH) (K' : Fr → AH → Prop), Alike i fr fr2 → K' (fr2.put i.dst (.v undef)) h2 → wI C i K' fr2 h2 := by
          intro fr2 h2 K' ha hk'
          unfold wI
          rw [hg]
          simp only [← ha.guard hg, ht]
          exact hk'
        refine ⟨.v undef, fr.bx, h, hw, .refl h, fun _ => rfl, fun _ => .refl h, fun hh => absurd hh hq, fun _ => rfl, fun _ _ fr2 K' ha hk' => skip fr2 h K' ha hk', fun _ fr2 h2 K' ha hb hk' => skip fr2 h2 K' ha ?_⟩
        rw [hb] at hk'
        exact hk'
      · exact hw.elim
end
end Am
end Go.Proofs.YtfhlblclcdhbiaaGreatDoor
namespace Go.Proofs.YtfhlblclcdhbiaaGreatDoor
open Go
set_option linter.unusedVariables false
set_option linter.unusedSimpArgs false
namespace Am
/-- The written order's course. -/
def Course (C : CT) (ais : List AI) (F : Nat → Fr) (Hh : Nat → AH) (V : Nat → TV) : Prop :=
  ∀ (i : Nat) a, ais[i]? = some a → ∃ bx, MovesI C a (F i) (Hh i) (V i) bx (Hh (i + 1)) ∧ F (i + 1) = Fr.put { F i with bx := bx } a.dst (V i)
section
variable {C : CT}
theorem course_of (hC : Sure C) : ∀ {ais : List AI} {fr : Fr} {h : AH} {K : Fr → AH → Prop}, h.bar ≤ h.ob.length → wIs C ais K fr h →
    ∃ F Hh V, F 0 = fr ∧ Hh 0 = h ∧ Course C ais F Hh V ∧ K (F ais.length) (Hh ais.length)
  | [], fr, h, K, _, hw => ⟨fun _ => fr, fun _ => h, fun _ => .x, rfl, rfl, fun i a hi => by simp at hi, hw⟩
  | a :: l, fr, h, K, hb, hw => by
    simp only [wIs] at hw
    obtain ⟨v, bx, h', hk, hm⟩ := wI_moves hC hb hw
    obtain ⟨F, Hh, V, h1, h2, h3, h4⟩ := course_of hC (hm.low.fit hb) hk
    refine ⟨fun k => match k with | 0 => fr | k + 1 => F k, fun k => match k with | 0 => h | k + 1 => Hh k, fun k => match k with | 0 => v | k + 1 => V k, rfl, rfl, ?_, h4⟩
    intro i b hi
    cases i with
    | zero =>
      simp at hi
      subst hi
      exact ⟨bx, by simpa [h2] using hm, by simpa using h1⟩
    | succ i => exact h3 i b (by simpa using hi)

theorem put_bx (fr : Fr) (d : Option Nat) (v : TV) : (fr.put d v).bx = fr.bx := by cases d <;> rfl
theorem look_frput (fr : Fr) (d : Option Nat) (v : TV) (t : Nat) : look (fr.put d v).tm t = if d = some t then some v else look fr.tm t := by
  cases d with
  | none => simp [Fr.put]
  | some n =>
    simp only [Fr.put, look_put, Option.some.injEq]
    by_cases h : t = n
    · simp [h]
    · rw [if_neg h, if_neg (Ne.symm h)]

/-- No two yield in the same place; the order of each two is bound or can't be seen. -/
structure Pairs (ais : List AI) (bf : Nat → List Nat) : Prop where
  plain : ∀ a ∈ ais, cls a.op = .hread → a.op.xs.all plainX = true
  dst : ∀ (i j : Nat) a b t, ais[i]? = some a → ais[j]? = some b → i ≠ j → a.dst = some t → b.dst ≠ some t
  pair : ∀ (i j : Nat) a b, j < i → ais[i]? = some a → ais[j]? = some b → j ∈ bf i ∨ ((∀ t, a.dst = some t → t ∉ b.reads) ∧ (∀ t, b.dst = some t → t ∉ a.reads) ∧ either b.op a.op = true)
theorem pairs_of {ais : List AI} {bf : List (List Nat)} (h : allPairs ais bf = true) : Pairs ais (fun i => bf.getD i []) := by
  simp only [allPairs, Bool.and_eq_true, List.all_eq_true, List.mem_range] at h
  obtain ⟨h1, h2⟩ := h
  have key : ∀ (i j : Nat) a b, j < i → ais[i]? = some a → ais[j]? = some b → pairOk a b ((bf.getD i []).contains j) = true := by
    intro i j a b hji hi hj
    have := h2 i (List.getElem?_eq_some_iff.mp hi).1 j hji
    simpa [hi, hj] using this
  have dd : ∀ (i j : Nat) a b t, j < i → ais[i]? = some a → ais[j]? = some b → a.dst = some t → b.dst = some t → False := by
    intro i j a b t hji hi hj ha hb
    have := key i j a b hji hi hj
    simp [pairOk, sameDst, ha, hb] at this
  refine ⟨fun a ha hc => ?_, ?_, ?_⟩
  · have := h1 a ha
    simp only [hc, Bool.or_eq_true] at this
    rcases this with h | h
    · exact absurd h (by decide)
    · exact h
  · intro i j a b t hi hj hne ha hb
    rcases Nat.lt_or_gt_of_ne hne with h | h
    · exact dd j i b a t h hj hi hb ha
    · exact dd i j a b t h hi hj ha hb
  · intro i j a b hji hi hj
    have := key i j a b hji hi hj
    simp only [pairOk, Bool.and_eq_true, Bool.or_eq_true, Bool.not_eq_true'] at this
    obtain ⟨_, h | ⟨⟨h1, h2⟩, h3⟩⟩ := this
    · exact .inl (by simpa using h)
    · refine .inr ⟨fun t ht hm => ?_, fun t ht hm => ?_, h3⟩
      · simp [touches, ht, hm] at h1
      · simp [touches, ht, hm] at h2

variable {ais : List AI} {bf : Nat → List Nat} {F : Nat → Fr} {Hh : Nat → AH} {V : Nat → TV}
theorem looks_a (hp : Pairs ais bf) (hc : Course C ais F Hh V) : ∀ i, i ≤ ais.length → ∀ (k : Nat) a t, k < i → ais[k]? = some a → a.dst = some t → look (F i).tm t = some (V k) := by
  intro i
  induction i with
  | zero => intro _ k a t hk; omega
  | succ i ih =>
    intro hi k a t hk ha ht
    have hib : ais[i]? = some ais[i] := List.getElem?_eq_getElem (by omega)
    obtain ⟨bx, _, hF⟩ := hc i _ hib
    rw [hF, look_frput]
    by_cases hki : k = i
    · subst hki
      rw [hib] at ha
      cases ha
      rw [if_pos ht]
    · rw [if_neg (hp.dst k i a _ t ha hib hki ht)]
      exact ih (by omega) k a t (by omega) ha ht
theorem looks_b (hc : Course C ais F Hh V) {t : Nat} : ∀ i, i ≤ ais.length → (∀ (k : Nat) a, k < i → ais[k]? = some a → a.dst ≠ some t) → look (F i).tm t = look (F 0).tm t := by
  intro i
  induction i with
  | zero => intro _ _; rfl
  | succ i ih =>
    intro hi hn
    have hib : ais[i]? = some ais[i] := List.getElem?_eq_getElem (by omega)
    obtain ⟨bx, _, hF⟩ := hc i _ hib
    rw [hF, look_frput, if_neg (hn i _ (by omega) hib)]
    exact ih (by omega) fun k a hk => hn k a (by omega)
theorem span_bx (hc : Course C ais F Hh V) {a : Nat} : ∀ b, a ≤ b → b ≤ ais.length → (∀ (k : Nat) x, a ≤ k → k < b → ais[k]? = some x → onBox x.op = false) → (F b).bx = (F a).bx := by
  intro b
  induction b with
  | zero => intro h _ _; rw [Nat.le_zero.mp h]
  | succ b ih =>
    intro hab hb hn
    by_cases he : a = b + 1
    · rw [he]
    · have hib : ais[b]? = some ais[b] := List.getElem?_eq_getElem (by omega)
      obtain ⟨bx, hm, hF⟩ := hc b _ hib
      rw [hF, put_bx]
      simp only
      rw [hm.box (hn b _ (by omega) (by omega) hib)]
      exact ih (by omega) (by omega) fun k x h1 h2 => hn k x h1 (by omega)
theorem span_h (hc : Course C ais F Hh V) {a : Nat} : ∀ b, a ≤ b → b ≤ ais.length → (∀ (k : Nat) x, a ≤ k → k < b → ais[k]? = some x → isAct x.op = true → onBox x.op = true) → Hh b = Hh a := by
  intro b
  induction b with
  | zero => intro h _ _; rw [Nat.le_zero.mp h]
  | succ b ih =>
    intro hab hb hn
    by_cases he : a = b + 1
    · rw [he]
    · have hib : ais[b]? = some ais[b] := List.getElem?_eq_getElem (by omega)
      obtain ⟨bx, hm, hF⟩ := hc b _ hib
      have : Hh (b + 1) = Hh b := by
        cases hq : isAct (ais[b]).op with
        | false => exact (hm.quiet hq).1
        | true => exact hm.onb (hn b _ (by omega) (by omega) hib hq)
      rw [this]
      exact ih (by omega) (by omega) fun k x h1 h2 => hn k x h1 (by omega)
theorem span_pre (hc : Course C ais F Hh V) {a : Nat} : ∀ b, a ≤ b → b ≤ ais.length → (∀ (k : Nat) x, a ≤ k → k < b → ais[k]? = some x → isAct x.op = false ∨ cls x.op = .act true) → Pre (Hh a) (Hh b) := by
  intro b
  induction b with
  | zero => intro h _ _; rw [Nat.le_zero.mp h]; exact .refl _
  | succ b ih =>
    intro hab hb hn
    by_cases he : a = b + 1
    · rw [he]; exact .refl _
    · have hib : ais[b]? = some ais[b] := List.getElem?_eq_getElem (by omega)
      obtain ⟨bx, hm, hF⟩ := hc b _ hib
      refine (ih (by omega) (by omega) fun k x h1 h2 => hn k x h1 (by omega)).trans ?_
      rcases hn b _ (by omega) (by omega) hib with h | h
      · rw [(hm.quiet h).1]; exact .refl _
      · exact hm.pre h
end

theorem befores_go : ∀ (l : List Oper) (acc : List (List Nat)) (R : List (List Nat)), R = l.foldl (fun acc o => acc ++ [(o.after.toList.filter (Region.binds .any)).flatMap fun e => e.on :: acc.getD e.on []]) acc →
    (∀ x k, k ∈ acc.getD x [] → k ∈ R.getD x []) ∧ ∀ i k, k ∈ R.getD i [] → (i < acc.length ∧ k ∈ acc.getD i []) ∨ ∃ m o, i = acc.length + m ∧ l[m]? = some o ∧ ∃ e ∈ o.after, Region.binds .any e = true ∧ (k = e.on ∨ k ∈ R.getD e.on [])
  | [], acc, R, hR => by
    simp only [List.foldl_nil] at hR
    subst hR
    refine ⟨fun _ _ h => h, fun i k hk => .inl ⟨?_, hk⟩⟩
    rcases Nat.lt_or_ge i R.length with h | h
    · exact h
    · rw [List.getD_eq_getElem?_getD, List.getElem?_eq_none h] at hk
      simp at hk
  | o :: l, acc, R, hR => by
    simp only [List.foldl_cons] at hR
    obtain ⟨h1, h2⟩ := befores_go l _ R hR
    have pre : ∀ x k, k ∈ acc.getD x [] → k ∈ R.getD x [] := by
      intro x k hk
      refine h1 x k ?_
      rcases Nat.lt_or_ge x acc.length with h | h
      · simp only [List.getD_eq_getElem?_getD] at hk ⊢
        rw [List.getElem?_append_left h]
        exact hk
      · simp only [List.getD_eq_getElem?_getD] at hk
        rw [List.getElem?_eq_none h] at hk
        simp at hk
    refine ⟨pre, fun i k hk => ?_⟩
    rcases h2 i k hk with ⟨hi, hk'⟩ | ⟨m, o', hi, ho, he⟩
    · simp only [List.length_append, List.length_singleton] at hi
      rcases Nat.lt_or_ge i acc.length with h | h
      · refine .inl ⟨h, ?_⟩
        simp only [List.getD_eq_getElem?_getD] at hk' ⊢
        rw [List.getElem?_append_left h] at hk'
        exact hk'
      · have hie : i = acc.length := by omega
        subst hie
        refine .inr ⟨0, o, by omega, rfl, ?_⟩
        simp only [List.getD_eq_getElem?_getD, List.getElem?_concat_length, Option.getD_some, List.mem_flatMap, List.mem_filter, List.mem_cons] at hk'
        obtain ⟨e, ⟨he1, he2⟩, he3⟩ := hk'
        refine ⟨e, by simpa using he1, he2, ?_⟩
        rcases he3 with he3 | he3
        · exact .inl he3
        · exact .inr (pre _ _ (by simpa [List.getD_eq_getElem?_getD] using he3))
    · exact .inr ⟨m + 1, o', by simp at hi; omega, by simpa using ho, he⟩
theorem befores_spec {ops : List Oper} {i k : Nat} (h : k ∈ (befores ops).getD i []) : ∃ o, ops[i]? = some o ∧ ∃ e ∈ o.after, Region.binds .any e = true ∧ (k = e.on ∨ k ∈ (befores ops).getD e.on []) := by
  obtain ⟨_, h2⟩ := befores_go ops [] (befores ops) rfl
  rcases h2 i k h with ⟨h, _⟩ | ⟨m, o, hi, ho, he⟩
  · simp at h
  · simp at hi
    subst hi
    exact ⟨o, ho, he⟩
theorem edgesBack_spec : ∀ {l : List Oper} {n : Nat}, edgesBack l n = true → ∀ (i : Nat) o, l[i]? = some o → ∀ e ∈ o.after, Region.binds .any e = true → e.on < n + i
  | [], _, _, i, o, h, _, _, _ => by simp at h
  | x :: l, n, h, i, o, ho, e, he, hb => by
    simp only [edgesBack, Bool.and_eq_true, List.all_eq_true] at h
    cases i with
    | zero =>
      simp at ho
      subst ho
      have := h.1 e (by simpa using he)
      simpa [hb] using this
    | succ i =>
      have := edgesBack_spec h.2 i o (by simpa using ho) e he hb
      omega
end Am
end Go.Proofs.YtfhlblclcdhbiaaGreatDoor
namespace Go.Proofs.YtfhlblclcdhbiaaGreatDoor
open Go
set_option linter.unusedVariables false
set_option linter.unusedSimpArgs false
namespace Am
section
variable {P : Program} {B0 nt : Nat} {β0 : Bt} {h0 : AH} {w0 : World} {H : Hint} {ops : Array Oper} {ais : List AI} {F : Nat → Fr} {Hh : Nat → AH} {V : Nat → TV}

/-- a state on the way: the operations of 'arr' are done -/
structure Mid (ais : List AI) (F : Nat → Fr) (Hh : Nat → AH) (V : Nat → TV) (L : Nat → Prop) (fr : Fr) (h : AH) : Prop where
  at_ : ∃ j, j ≤ ais.length ∧ h = Hh j ∧ ∀ (k : Nat) x, ais[k]? = some x → isAct x.op = true → onBox x.op = false → (L k ↔ k < j)
  atb : ∃ j, j ≤ ais.length ∧ fr.bx = (F j).bx ∧ ∀ (k : Nat) x, ais[k]? = some x → onBox x.op = true → (L k ↔ k < j)
  done : ∀ (k : Nat) x t, ais[k]? = some x → x.dst = some t → L k → look fr.tm t = some (V k)
  rest : ∀ t, (∀ (k : Nat) x, ais[k]? = some x → L k → x.dst ≠ some t) → look fr.tm t = look (F 0).tm t

theorem eitherS {a b : AO} (h : either a b = true) :
    (isAct a = true → isAct b = true → onBox a ≠ onBox b) ∧ (cls a = .lread → isAct b = true → onBox b = false) ∧ (cls b = .lread → isAct a = true → onBox a = false) ∧
    (cls a = .hread → isAct b = true → cls b = .act true) ∧ (cls b = .hread → isAct a = true → cls a = .act true) := by
  unfold either at h
  unfold isAct
  generalize hx : cls a = x at h ⊢
  generalize hy : cls b = y at h ⊢
  cases x <;> cases y <;> simp_all

theorem mid_step {C : CT} {L : Nat → Prop} {fr : Fr} {h : AH} {bf : Nat → List Nat} (hp : Pairs ais bf) (hc : Course C ais F Hh V) (closed : ∀ i, L i → ∀ k ∈ bf i, L k) (hm : Mid ais F Hh V L fr h)
    {β : Bt} {lam : Lam} {tmps : Array Value} {w : World} (hr : RH B0 β h w) (hf : FrR β lam fr tmps)
    {i : Nat} {a : AI} (hi : ais[i]? = some a) (hun : ¬ L i) (hbf : ∀ k ∈ bf i, L k) : wI C a (Mid ais F Hh V fun k => L k ∨ k = i) fr h := by
  obtain ⟨⟨j, hj, hh, hact⟩, ⟨jb, hjb, hbx, hbact⟩, hdone, hrest⟩ := hm
  have hil : i < ais.length := (List.getElem?_eq_some_iff.mp hi).1
  obtain ⟨bx, hmv, hF⟩ := hc i a hi
  -- the operands
  have halike : Alike a (F i) fr := by
    intro t ht
    by_cases hex : ∃ (k : Nat) (x : AI), ais[k]? = some x ∧ x.dst = some t
    · obtain ⟨k, x, hk, hx⟩ := hex
      have uniq : ∀ (k' : Nat) x', ais[k']? = some x' → x'.dst = some t → k' = k := by
        intro k' x' hk' hx'
        rcases Nat.decEq k' k with hne | he
        · exact absurd hx (hp.dst k' k x' x t hk' hk hne hx')
        · exact he
      rcases Nat.lt_trichotomy k i with hlt | heq | hgt
      · rcases hp.pair i k a x hlt hi hk with hb | ⟨_, hb, _⟩
        · rw [looks_a hp hc i (by omega) k x t hlt hk hx, hdone k x t hk hx (hbf k hb)]
        · exact absurd ht (hb t hx)
      · subst heq
        rw [looks_b hc k (by omega) fun k' a' hk' ha' hx' => by have := uniq k' a' ha' hx'; omega]
        rw [hrest t fun k' a' ha' hL hx' => hun (by rw [uniq k' a' ha' hx'] at hL; exact hL)]
      · rcases hp.pair k i x a hgt hk hi with hb | ⟨hb, _, _⟩
        · rw [looks_b hc i (by omega) fun k' a' hk' ha' hx' => by have := uniq k' a' ha' hx'; omega]
          rw [hrest t fun k' a' ha' hL hx' => hun (by rw [uniq k' a' ha' hx'] at hL; exact closed k hL i hb)]
        · exact absurd ht (hb t hx)
    · rw [looks_b hc i (by omega) fun k x _ hk hx => hex ⟨k, x, hk, hx⟩, hrest t fun k x hk _ hx => hex ⟨k, x, hk, hx⟩]
  -- what has been yielded, afterwards
  have hdone' : ∀ {fr' : Fr}, (∀ t, look fr'.tm t = if a.dst = some t then some (V i) else look fr.tm t) → ∀ (k : Nat) x t, ais[k]? = some x → x.dst = some t → (L k ∨ k = i) → look fr'.tm t = some (V k) := by
    intro fr' he k x t hk hx hL
    rw [he t]
    by_cases hki : k = i
    · subst hki
      rw [hi] at hk
      cases hk
      rw [if_pos hx]
    · rw [if_neg (hp.dst k i x a t hk hi hki hx)]
      exact hdone k x t hk hx (hL.resolve_right hki)
  have hrest' : ∀ {fr' : Fr}, (∀ t, look fr'.tm t = if a.dst = some t then some (V i) else look fr.tm t) → ∀ t, (∀ (k : Nat) x, ais[k]? = some x → (L k ∨ k = i) → x.dst ≠ some t) → look fr'.tm t = look (F 0).tm t := by
    intro fr' he t hn
    rw [he t, if_neg (hn i a hi (.inr rfl))]
    exact hrest t fun k x hk hL => hn k x hk (.inl hL)
  by_cases hq : isAct a.op = false
  · -- a quiet one: its value is the same here and now
    obtain ⟨_, _, hval⟩ := hmv.quiet hq
    have bound : ∀ (k : Nat) x (j' : Nat), ais[k]? = some x → (L k ↔ k < j') → isAct x.op = true → (i ≤ k ∧ k < j' ∨ j' ≤ k ∧ k < i) → either a.op x.op = true ∨ either x.op a.op = true := by
      intro k x j' hk hL hx hb
      rcases hb with ⟨h1, h2⟩ | ⟨h1, h2⟩
      · have hne : i ≠ k := by rintro rfl; rw [hi] at hk; cases hk; rw [hq] at hx; cases hx
        rcases hp.pair k i x a (by omega) hk hi with hb | ⟨_, _, hb⟩
        · exact absurd (closed k (hL.mpr h2) i hb) hun
        · exact .inl hb
      · rcases hp.pair i k a x h2 hi hk with hb | ⟨_, _, hb⟩
        · have := hL.mp (hbf k hb); omega
        · exact .inr hb
    have boxAct : ∀ {o : AO}, onBox o = true → isAct o = true := by
      intro o ho
      cases hq' : isAct o with
      | true => rfl
      | false => rw [quiet_box hq'] at ho; cases ho
    have lr : ∀ (k : Nat) x, ais[k]? = some x → (i ≤ k ∧ k < jb ∨ jb ≤ k ∧ k < i) → cls a.op = .lread → onBox x.op = false := by
      intro k x hk hb hl
      cases hx : onBox x.op with
      | false => rfl
      | true => rcases bound k x jb hk (hbact k x hk hx) (boxAct hx) hb with h | h
                · rw [(eitherS h).2.1 hl (boxAct hx)] at hx; cases hx
                · rw [(eitherS h).2.2.1 hl (boxAct hx)] at hx; cases hx
    have hrd : ∀ (k : Nat) x, ais[k]? = some x → (i ≤ k ∧ k < j ∨ j ≤ k ∧ k < i) → cls a.op = .hread → isAct x.op = false ∨ cls x.op = .act true := by
      intro k x hk hb hl
      cases hx : isAct x.op with
      | false => exact .inl rfl
      | true =>
        cases ho : onBox x.op with
        | true => exact .inr (by cases hxo : x.op <;> simp [hxo, onBox, cls] at ho ⊢)
        | false =>
          rcases bound k x j hk (hact k x hk hx ho) hx hb with h | h
          · exact .inr ((eitherS h).2.2.2.1 hl hx)
          · exact .inr ((eitherS h).2.2.2.2 hl hx)
    have hbx' : cls a.op = .lread → (F i).bx = fr.bx := by
      intro hl
      rw [hbx]
      rcases Nat.lt_or_ge i jb with hlt | hge
      · exact (span_bx hc jb (by omega) hjb fun k x h1 h2 hk => lr k x hk (.inl ⟨h1, h2⟩) hl).symm
      · exact span_bx hc i hge (by omega) fun k x h1 h2 hk => lr k x hk (.inr ⟨h1, h2⟩) hl
    have hv : qI a fr h = some (V i) := by
      by_cases hl : cls a.op = .hread
      · rw [← qI_same halike fun hl' => (by rw [hl] at hl'; cases hl')]
        rw [hh]
        rcases Nat.lt_or_ge i j with hlt | hge
        · exact qI_fwd (span_pre hc j (by omega) hj fun k x h1 h2 hk => hrd k x hk (.inl ⟨h1, h2⟩) hl) hq hval
        · have hpre := span_pre hc i hge (by omega) fun k x h1 h2 hk => hrd k x hk (.inr ⟨h1, h2⟩) hl
          rw [hh] at hr
          rw [qI_same halike fun hl' => (by rw [hl] at hl'; cases hl')] at hval ⊢
          exact qI_back hr hf hpre (hp.plain a (List.mem_of_getElem? hi)) hq hval
      · rw [← qI_same halike hbx', qI_heap hq hl (h2 := Hh i)]
        exact hval
    refine (wI_quiet hq).mpr ⟨V i, hv, ⟨j, hj, hh, ?_⟩, ⟨jb, hjb, by rw [put_bx]; exact hbx, ?_⟩, hdone' (fun t => look_frput _ _ _ _), hrest' (fun t => look_frput _ _ _ _)⟩
    · intro k x hk hx ho
      rw [← hact k x hk hx ho]
      constructor
      · rintro (h | rfl)
        · exact h
        · rw [hi] at hk; cases hk; rw [hq] at hx; cases hx
      · exact .inl
    · intro k x hk ho
      rw [← hbact k x hk ho]
      constructor
      · rintro (h | rfl)
        · exact h
        · rw [hi] at hk; cases hk; rw [quiet_box hq] at ho; cases ho
      · exact .inl
  · -- one that acts: it is the next of its kind
    have hq : isAct a.op = true := by simpa using hq
    cases hob : onBox a.op with
    | false =>
      have hij : j ≤ i := by
        rcases Nat.lt_or_ge i j with h | h
        · exact absurd ((hact i a hi hq hob).mpr h) hun
        · exact h
      have hno : ∀ (k : Nat) x, j ≤ k → k < i → ais[k]? = some x → isAct x.op = true → onBox x.op = true := by
        intro k x h1 h2 hk hx
        cases ho : onBox x.op with
        | true => rfl
        | false =>
          rcases hp.pair i k a x h2 hi hk with hb | ⟨_, _, hb⟩
          · have := (hact k x hk hx ho).mp (hbf k hb); omega
          · exact absurd (ho.trans hob.symm) ((eitherS hb).1 hx hq)
      rw [hh, ← span_h hc i hij (by omega) hno]
      refine hmv.heap hob hq fr _ halike ⟨⟨i + 1, by omega, rfl, ?_⟩, ⟨jb, hjb, by rw [put_bx]; exact hbx, ?_⟩, hdone' (fun t => look_frput _ _ _ _), hrest' (fun t => look_frput _ _ _ _)⟩
      · intro k x hk hx ho
        constructor
        · rintro (hL | rfl)
          · have := (hact k x hk hx ho).mp hL; omega
          · omega
        · intro hlt
          rcases Nat.lt_or_ge k j with h | h
          · exact .inl ((hact k x hk hx ho).mpr h)
          · rcases Nat.lt_or_ge k i with h2 | h2
            · rw [hno k x h h2 hk hx] at ho; cases ho
            · exact .inr (by omega)
      · intro k x hk ho
        rw [← hbact k x hk ho]
        constructor
        · rintro (h | rfl)
          · exact h
          · rw [hi] at hk; cases hk; rw [hob] at ho; cases ho
        · exact .inl
    | true =>
      have hij : jb ≤ i := by
        rcases Nat.lt_or_ge i jb with h | h
        · exact absurd ((hbact i a hi hob).mpr h) hun
        · exact h
      have boxAct : ∀ {o : AO}, onBox o = true → isAct o = true := by
        intro o ho
        cases hq' : isAct o with
        | true => rfl
        | false => rw [quiet_box hq'] at ho; cases ho
      have hno : ∀ (k : Nat) x, jb ≤ k → k < i → ais[k]? = some x → onBox x.op = false := by
        intro k x h1 h2 hk
        cases ho : onBox x.op with
        | false => rfl
        | true =>
          rcases hp.pair i k a x h2 hi hk with hb | ⟨_, _, hb⟩
          · have := (hbact k x hk ho).mp (hbf k hb); omega
          · exact absurd (ho.trans hob.symm) ((eitherS hb).1 (boxAct ho) hq)
      refine hmv.own hob fr h _ halike (by rw [hbx]; exact span_bx hc i hij (by omega) hno) ⟨⟨j, hj, hh, ?_⟩, ⟨i + 1, by omega, ?_, ?_⟩, hdone' (fun t => look_frput _ _ _ _), hrest' (fun t => look_frput _ _ _ _)⟩
      · intro k x hk hx ho
        rw [← hact k x hk hx ho]
        constructor
        · rintro (h | rfl)
          · exact h
          · rw [hi] at hk; cases hk; rw [hob] at ho; cases ho
        · exact .inl
      · rw [hF, put_bx, put_bx]
      · intro k x hk ho
        constructor
        · rintro (hL | rfl)
          · have := (hbact k x hk ho).mp hL; omega
          · omega
        · intro hlt
          rcases Nat.lt_or_ge k jb with h | h
          · exact .inl ((hbact k x hk ho).mpr h)
          · rcases Nat.lt_or_ge k i with h2 | h2
            · rw [hno k x h h2 hk] at ho; cases ho
            · exact .inr (by omega)

theorem cnt_set {p : Nat → Bool} {n i : Nat} (hi : i < n) (hp : p i = true) : ((List.range n).filter fun k => p k && k != i).length < ((List.range n).filter p).length := by
  have e : (List.range n).filter (fun k => p k && k != i) = ((List.range n).filter p).filter (fun k => k != i) := by
    rw [List.filter_filter]
    congr 1
    funext k
    rw [Bool.and_comm]
  rw [e, List.length_filter_lt_length_iff_exists]
  exact ⟨i, by simp [hi, hp], by simp⟩

theorem draw_any (d0 : ∀ o e, β0 o = some e → o < h0.ob.length) (b00 : B0 ≤ w0.heap.size) {Q : Exit → Act → World → Prop}
    (hcI : cIs P H nt true ops ops.toList = some ais) (hp : Pairs ais fun i => (befores ops.toList).getD i []) (he : edgesBack ops.toList 0 = true) (hc : Course (YC P B0) ais F Hh V)
    (hQ : ∀ a w, Here B0 β0 h0 w0 nt a w (fun fr h => fr = F ais.length ∧ h = Hh ais.length) → Q .normal a w) :
    ∀ (fuel : Nat) (arr : Array Bool) (a : Act) (w : World), arr.size = ops.size → ((List.range ops.size).filter fun k => !arr.getD k true).length ≤ fuel →
      (∀ i, arr.getD i false = true → ∀ k ∈ (befores ops.toList).getD i [], arr.getD k false = true) →
      Here B0 β0 h0 w0 nt a w (Mid ais F Hh V fun k => arr.getD k false = true) → wpAny P .any ops Q fuel arr a w := by
  obtain ⟨hlen, hget⟩ := cIs_get hcI
  have hlen : ais.length = ops.size := by simpa using hlen
  have gd : ∀ (arr : Array Bool) (k : Nat), arr.size = ops.size → k < ops.size → arr.getD k true = arr.getD k false := by
    intro arr k hs hk
    simp [Array.getD, hs, hk]
  have ends : ∀ (arr : Array Bool) a w, arr.size = ops.size → Region.ready .any ops arr = [] → Here B0 β0 h0 w0 nt a w (Mid ais F Hh V fun k => arr.getD k false = true) → Q .normal a w := by
    intro arr a w hs hr ⟨hdf, β, lam, fr, h, hst, ⟨j, hj, hh, hact⟩, ⟨jb, hjb, hbx, hbact⟩, hdone, hrest⟩
    have all : ∀ i, i < ops.size → arr.getD i false = true := by
      intro i
      induction i using Nat.strongRecOn with
      | _ i ih =>
        intro hi
        cases hb : arr.getD i false with
        | true => rfl
        | false =>
          have : i ∈ Region.ready .any ops arr := by
            rw [mem_ready]
            refine ⟨by rw [gd arr i hs hi]; exact hb, ops[i], by simp [hi], fun e hee hbe => ih e.on ?_ ?_⟩
            · have := edgesBack_spec he i ops[i] (by simp [hi]) e hee hbe; omega
            · have := edgesBack_spec he i ops[i] (by simp [hi]) e hee hbe; omega
          rw [hr] at this
          cases this
    have hno : ∀ (k : Nat) x, j ≤ k → k < ais.length → ais[k]? = some x → isAct x.op = true → onBox x.op = true := by
      intro k x h1 h2 hk hx
      cases ho : onBox x.op with
      | true => rfl
      | false => have := (hact k x hk hx ho).mp (all k (by omega)); omega
    have e1 := span_h hc ais.length hj (Nat.le_refl _) hno
    have e2 := span_bx hc ais.length hjb (Nat.le_refl _) fun k x h1 h2 hk => by
      cases ho : onBox x.op with
      | false => rfl
      | true => have := (hbact k x hk ho).mp (all k (by omega)); omega
    refine hQ a w ⟨hdf, β, lam, F ais.length, Hh ais.length, ?_, rfl, rfl⟩
    rw [e1, ← hh]
    refine ⟨hst.step, hst.rh, fun t v ht => hst.frr t v ?_, by rw [e2, ← hbx]; exact hst.bxr, hst.size⟩
    rw [← ht]
    by_cases hex : ∃ (k : Nat) (x : AI), ais[k]? = some x ∧ x.dst = some t
    · obtain ⟨k, x, hk, hx⟩ := hex
      have hkl := (List.getElem?_eq_some_iff.mp hk).1
      rw [hdone k x t hk hx (all k (by omega)), looks_a hp hc _ (Nat.le_refl _) k x t hkl hk hx]
    · rw [looks_b hc _ (Nat.le_refl _) fun k x _ hk hx => hex ⟨k, x, hk, hx⟩, hrest t fun k x hk _ hx => hex ⟨k, x, hk, hx⟩]
  intro fuel
  induction fuel with
  | zero =>
    intro arr a w hs hcnt hcl hh
    have hr : Region.ready .any ops arr = [] := by
      cases hr : Region.ready .any ops arr with
      | nil => rfl
      | cons i r =>
        have hi : i ∈ Region.ready .any ops arr := by rw [hr]; simp
        rw [mem_ready] at hi
        obtain ⟨h1, o, ho, _⟩ := hi
        have hio := (Array.getElem?_eq_some_iff.mp ho).1
        have : i ∈ (List.range ops.size).filter fun k => !arr.getD k true := by
          rw [List.mem_filter]
          exact ⟨by simp [hio], by rw [h1]; rfl⟩
        rw [List.eq_nil_of_length_eq_zero (Nat.le_zero.mp hcnt)] at this
        cases this
    exact ⟨hr, ends arr a w hs hr hh⟩
  | succ fuel ih =>
    intro arr a w hs hcnt hcl hh
    refine ⟨fun hr => ends arr a w hs hr hh, fun i hi => ?_⟩
    rw [mem_ready] at hi
    obtain ⟨h1, o, ho, hedge⟩ := hi
    have hio := (Array.getElem?_eq_some_iff.mp ho).1
    obtain ⟨ai, hai, hci⟩ := hget i o (by simpa using ho)
    have hun : ¬ arr.getD i false = true := by rw [← gd arr i hs hio, h1]; decide
    have hbf : ∀ k ∈ (befores ops.toList).getD i [], arr.getD k false = true := by
      intro k hk
      obtain ⟨o', ho', e, hee, hbe, hor⟩ := befores_spec hk
      have : o' = o := by
        rw [Array.getElem?_toList] at ho'
        rw [ho] at ho'
        cases ho'
        rfl
      subst this
      have hl := hedge e hee hbe
      rcases hor with rfl | hor
      · exact hl
      · exact hcl e.on hl k hor
    obtain ⟨hdf, β, lam, fr, h, hst, hmid⟩ := hh
    have hw := mid_step hp hc hcl hmid hst.rh hst.frr hai hun hbf
    have key := i_sound (Q := Q) hst hdf d0 b00 hci hw (next := wpAny P .any ops Q fuel (arr.setIfInBounds i true)) fun a' w' hh' => by
      have hset : ∀ k, (arr.setIfInBounds i true).getD k false = true ↔ (arr.getD k false = true ∨ k = i) := by
        intro k
        by_cases hki : k = i
        · subst hki
          simp [Array.getD, hs, hio]
        · rw [getD_set_ne false (Ne.symm hki)]
          simp [hki]
      refine ih _ a' w' (by simp [hs]) ?_ ?_ ?_
      · have hc2 := cnt_set (p := fun k => !arr.getD k true) hio (by simp [h1])
        have e : ((List.range ops.size).filter fun k => !(arr.setIfInBounds i true).getD k true) = (List.range ops.size).filter fun k => (!arr.getD k true) && k != i := by
          refine List.filter_congr fun k hk => ?_
          simp only [List.mem_range] at hk
          rw [gd _ k (by simp [hs]) hk, gd _ k hs hk]
          by_cases hki : k = i
          · subst hki
            have := (hset k).mpr (.inr rfl)
            rw [this]
            simp
          · rw [getD_set_ne false (Ne.symm hki)]
            simp [hki]
        rw [e]
        omega
      · intro m hm k hk
        rw [hset] at hm ⊢
        rcases hm with hm | rfl
        · exact .inl (hcl m hm k hk)
        · exact .inl (hbf k hk)
      · obtain ⟨g1, β', lam', fr', h', g2, g3⟩ := hh'
        refine ⟨g1, β', lam', fr', h', g2, ?_⟩
        have e : (fun k => (arr.setIfInBounds i true).getD k false = true) = fun k => arr.getD k false = true ∨ k = i := funext fun k => propext (hset k)
        rw [e]
        exact g3
    simp only [wpOp, ho]
    exact key

theorem draw_sound (hmix : P.follows .mixedOrders = true) (d0 : ∀ o e, β0 o = some e → o < h0.ob.length) (b00 : B0 ≤ w0.heap.size) {Q : Exit → Act → World → Prop} {id : Nat} {K : Fr → AH → Prop}
    (hcI : cIs P H nt true ops ops.toList = some ais) (hp : allPairs ais (befores ops.toList) = true) (he : edgesBack ops.toList 0 = true)
    (hQ : ∀ a w, Here B0 β0 h0 w0 nt a w K → Q .normal a w) {a : Act} {w : World} (hh : Here B0 β0 h0 w0 nt a w (wIs (YC P B0) ais K)) :
    (Code.region id ops true).wp P Q a w := by
  have hp := pairs_of hp
  obtain ⟨hdf, β, lam, fr, h, hst, hw⟩ := hh
  obtain ⟨F, Hh, V, hF, hH, hc, hk⟩ := course_of (YC.sure P B0) hst.rh.bar hw
  refine wp_region_any hmix (draw_any d0 b00 hcI hp he hc (fun a w ⟨g1, β', lam', fr', h', g2, g3, g4⟩ => hQ a w ⟨g1, β', lam', fr', h', g2, by rw [g3, g4]; exact hk⟩) ops.size _ a _ (by simp) ?_ ?_ ?_)
  · exact Nat.le_trans (List.length_filter_le _ _) (by simp)
  · intro i hi
    exfalso
    simp only [Array.getD_eq_getD_getElem?, Array.getElem?_replicate] at hi
    split at hi <;> simp at hi
  · have no : ∀ k, ¬ ((Array.replicate ops.size false).getD k false = true) := by
      intro k hi
      simp only [Array.getD_eq_getD_getElem?, Array.getElem?_replicate] at hi
      split at hi <;> simp at hi
    refine ⟨hdf, β, lam, fr, h, hst.drawn _, ⟨0, Nat.zero_le _, hH.symm, fun k x _ _ _ => ⟨fun h => absurd h (no k), fun h => by omega⟩⟩, ⟨0, Nat.zero_le _, by rw [hF], fun k x _ _ => ⟨fun h => absurd h (no k), fun h => by omega⟩⟩, fun k x t _ _ hL => absurd hL (no k), fun t _ => by rw [hF]⟩
end
end Am
end Go.Proofs.YtfhlblclcdhbiaaGreatDoor
namespace Go.Proofs.YtfhlblclcdhbiaaGreatDoor
open Go
set_option linter.unusedVariables false
set_option linter.unusedSimpArgs false
namespace Am
section
variable {P : Program} {B0 nt : Nat} {β0 : Bt} {h0 : AH} {w0 : World} {H : Hint} {keep : List (Nat × List Nat)}
/-- the ends of code -/
def QC (B0 : Nat) (β0 : Bt) (h0 : AH) (w0 : World) (nt : Nat) (Q : Ex → Fr → AH → Prop) : Exit → Act → World → Prop
  | .normal, a, w => Here B0 β0 h0 w0 nt a w (Q .normal)
  | .exit id, a, w => Here B0 β0 h0 w0 nt a w (Q (.exit id))
  | .ret, a, w => Here B0 β0 h0 w0 nt a w (Q .ret)
  | _, _, _ => False
/-- a round of a loop -/
def Round (P : Program) (c : Code) (Q : Exit → Act → World → Prop) (a : Act) (w : World) : Prop :=
  ∀ (b : Frame) (k : List Item) (cs : List Frame), ∃ e a' w', Q e a' w' ∧ Arrives P (lone (b.at a (.code c :: .inLoop c :: k)) cs w) b k cs e a' w'
theorem wp_of_round {c : Code} {Q : Exit → Act → World → Prop} {a : Act} {w : World} (h : Round P c Q a w) : (Code.loop c).wp P Q a w := fun b k cs => by
  obtain ⟨e, a', w', q, r⟩ := h b k cs
  exact ⟨e, a', w', q, .of_steps (.one step_loop) r⟩
theorem round_of {c : Code} {Q : Exit → Act → World → Prop} {a : Act} {w : World} (h : c.wp P (Exit.then (Round P c Q) Q) a w) : Round P c Q a w := by
  intro b k cs
  obtain ⟨e, a₁, w₁, hq, harr⟩ := h b (.inLoop c :: k) cs
  cases e with
  | normal =>
    obtain ⟨e₂, a₂, w₂, hq₂, harr₂⟩ := hq b k cs
    exact ⟨e₂, a₂, w₂, hq₂, .of_steps (Steps.trans harr (.one step_inLoop)) harr₂⟩
  | exit id => exact ⟨_, a₁, w₁, hq, .pass (x := .inLoop c) rfl (fun _ _ => .inl (by simp)) harr⟩
  | goto l => exact ⟨_, a₁, w₁, hq, .pass (x := .inLoop c) rfl (fun _ _ => .inl (by simp)) harr⟩
  | ret => exact ⟨_, a₁, w₁, hq, .pass (x := .inLoop c) rfl (fun _ _ => .inl (by simp)) harr⟩
  | panic ch => exact ⟨_, a₁, w₁, hq, .pass (x := .inLoop c) rfl (fun _ _ => .inl (by simp)) harr⟩
  | outgrown => exact ⟨_, a₁, w₁, hq, .pass (x := .inLoop c) rfl (fun _ _ => .inl (by simp)) harr⟩

theorem code_sound (hmix : P.follows .mixedOrders = true) (d0 : ∀ o e, β0 o = some e → o < h0.ob.length) (b00 : B0 ≤ w0.heap.size) : ∀ (c : Code) (ac : AC), cC P H nt keep c = some ac →
    ∀ (Q : Ex → Fr → AH → Prop) (a : Act) (w : World), Here B0 β0 h0 w0 nt a w (wC (YC P B0) ac Q) → c.wp P (QC B0 β0 h0 w0 nt Q) a w := by
  intro c
  induction c with
  | skip =>
    intro ac hc Q a w hh
    simp only [cC, Option.some.injEq] at hc
    subst hc
    exact wp_skip hh
  | region id ops draw =>
    intro ac hc Q a w hh
    simp only [cC] at hc
    split at hc
    · rename_i l hl
      have fin : ∀ a w, Here B0 β0 h0 w0 nt a w (fun fr h => Q .normal (keepT fr (keysOf keep id)) h) → QC B0 β0 h0 w0 nt Q .normal a w := by
        intro a w ⟨hdf, β, lam, fr, h, hst, hq⟩
        exact ⟨hdf, β, lam, _, h, hst.keep _, hq⟩
      split at hc
      · cases hc
      · rename_i hd
        cases hc
        cases draw with
        | true =>
          simp only [Bool.true_and, Bool.not_eq_true', Bool.not_eq_false, Bool.and_eq_true] at hd
          exact draw_sound hmix d0 b00 hl hd.1 hd.2 fin hh
        | false => exact wp_region (reg_sound d0 b00 fin _ ops.toList l (by
            apply List.ext_getElem?
            intro i
            simp only [List.getElem?_map, List.getElem?_range']
            by_cases hi : i < ops.size
            · rw [List.getElem?_range hi]; simp [hi]
            · rw [List.getElem?_eq_none (l := List.range ops.size) (by simp; omega), List.getElem?_eq_none (l := ops.toList) (by simp; omega)]; rfl) hl a w hh)
    · cases hc
  | seq x y ihx ihy =>
    intro ac hc Q a w hh
    simp only [cC] at hc
    split at hc
    · rename_i ax ay hx hy
      cases hc
      refine wp_seq (wp_mono (ihx ax hx _ a w hh) fun e a' w' hq => ?_)
      cases e with
      | normal => exact ihy ay hy Q a' w' hq
      | exit id => exact hq
      | ret => exact hq
      | _ => exact hq.elim
    · cases hc
  | cond x c1 c2 ih1 ih2 =>
    intro ac hc Q a w hh
    simp only [cC] at hc
    split at hc
    · rename_i z a1 a2 hz h1 h2
      cases hc
      obtain ⟨hdf, β, lam, fr, h, hst, hw⟩ := hh
      simp only [wC] at hw
      split at hw
      · rename_i t ht
        have hv := vr_bool (vl_sound hst.frr hz ht)
        cases t with
        | true => exact wp_cond_true hv (ih1 a1 h1 Q a w ⟨hdf, β, lam, fr, h, hst, by simpa using hw⟩)
        | false => exact wp_cond_false hv (ih2 a2 h2 Q a w ⟨hdf, β, lam, fr, h, hst, by simpa using hw⟩)
      · exact hw.elim
    · cases hc
  | block id c ih =>
    intro ac hc Q a w hh
    simp only [cC] at hc
    split at hc
    · rename_i ax hx
      cases hc
      refine wp_block (wp_mono (ih ax hx _ a w hh) fun e a' w' hq => ?_)
      cases e with
      | normal => exact hq
      | exit i =>
        simp only [Exit.inBlock]
        by_cases hi : i = id
        · rw [if_pos hi]
          simpa [QC, hi] using hq
        · rw [if_neg hi]
          simpa [QC, hi] using hq
      | ret => exact hq
      | _ => exact hq.elim
    · cases hc
  | loop c ih =>
    intro ac hc Q a w hh
    simp only [cC] at hc
    split at hc
    · rename_i ax hx
      cases hc
      obtain ⟨hdf, β, lam, fr, h, hst, hw⟩ := hh
      refine wp_of_round ?_
      refine hw (fun fr h => ∀ (a : Act) (w : World), a.defers = [] → ∀ β lam, St B0 β0 h0 w0 nt β lam fr h a.tmps w → Round P c (QC B0 β0 h0 w0 nt Q) a w) ?_ a w hdf β lam hst
      intro fr h hw a w hdf β lam hst
      refine round_of (wp_mono (ih ax hx _ a w ⟨hdf, β, lam, fr, h, hst, hw⟩) fun e a' w' hq => ?_)
      cases e with
      | normal =>
        obtain ⟨hdf', β', lam', fr', h', hst', hI⟩ := hq
        exact hI a' w' hdf' β' lam' hst'
      | exit id => exact hq
      | ret => exact hq
      | _ => exact hq.elim
    · cases hc
  | exit id =>
    intro ac hc Q a w hh
    simp only [cC, Option.some.injEq] at hc
    subst hc
    exact wp_exit hh
  | ret =>
    intro ac hc Q a w hh
    simp only [cC, Option.some.injEq] at hc
    subst hc
    exact wp_ret hh
  | _ => intro ac hc; simp [cC] at hc
end
end Am
end Go.Proofs.YtfhlblclcdhbiaaGreatDoor
namespace Go.Proofs.YtfhlblclcdhbiaaGreatDoor
open Go
set_option linter.unusedVariables false
set_option linter.unusedSimpArgs false
namespace Am
section
variable {P : Program} {B0 nt : Nat} {β0 β : Bt} {h0 h : AH} {w0 w : World} {H : Hint} {keep : List (Nat × List Nat)} {lam : Lam} {fr : Fr} {tmps : Array Value}

theorem runs_list {α γ : Type} (f : α → Sem γ) (g : α → γ) : ∀ (l : List α), (∀ x ∈ l, (f x).run P w = .ok (g x) w) → (l.mapM f).run P w = .ok (l.map g) w
  | [], _ => by simp
  | x :: l, h => by
    rw [List.mapM_cons]
    simp only [Sem.run_bind, h x (by simp), Result.andThen_ok, runs_list f g l fun y hy => h y (by simp [hy]), Sem.run_pure, List.map_cons]

def resF (tmps : Array Value) : ResultVar → Sem Value
  | .tmp t => pure (tmps.getD t undef)
  | .cell a t => do loadVar t (← asAddr (tmps.getD a undef))

theorem lp_cells (hst : St B0 β0 h0 w0 nt β lam fr h tmps w) {p : Ad} {u : Value} (hp : match p with
    | .l k g off => ∃ g' b b', lam[k]? = some (some (g', b)) ∧ g ≤ g' ∧ (g = g' → b' = b) ∧ u = .pointer (some ⟨b', off, none⟩)
    | .h o off => ∃ e, β o = some e ∧ u = .pointer (some ⟨e.b, e.sh + off, none⟩)) {n : Nat} {cs : List Value} (hl : ldA fr h n p = some cs) :
    ∃ a : Addr, ∃ b off, a = ⟨b, off, none⟩ ∧ u = .pointer (some a) ∧ ∃ us : List Value, us.length = n ∧ A2 (CR β) cs us ∧ ∀ (i : Nat) v, us[i]? = some v → w.cell? ⟨b, off + i, none⟩ = some v := by
  cases p with
  | l k g off =>
    obtain ⟨g', b, b', hb, hle, hbb, rfl⟩ := hp
    simp only [ldA] at hl
    split at hl
    · rename_i gb bs hbs
      split at hl
      · rename_i hgb
        obtain ⟨hg, _, us, h1, h2, h3⟩ := box_cells hst.bxr hb hbs hl
        have := hbb (hgb.trans hg)
        subst this
        exact ⟨_, b', off, rfl, rfl, us, h1, h2, h3⟩
      · cases hl
    · cases hl
  | h o off =>
    obtain ⟨e, he, rfl⟩ := hp
    simp only [ldA] at hl
    obtain ⟨_, us, h1, h2, h3⟩ := rd_cells hst.rh he hl
    exact ⟨_, e.b, e.sh + off, rfl, rfl, us, h1, h2, h3⟩

theorem res_sound {a : Act} (hst : St B0 β0 h0 w0 nt β lam fr h a.tmps w) : ∀ {rs : List ResultVar} {ars : List AR}, cR P rs = some ars → ∀ {vs : List Value}, resV fr h ars = some vs →
    ∃ us : List Value, (rs.mapM (resF a.tmps)).run P w = .ok us w ∧ A2 (WR β) vs us
  | [], ars, hc, vs, hv => by
    simp only [cR, Option.some.injEq] at hc
    subst hc
    simp only [resV, Option.some.injEq] at hv
    subst hv
    exact ⟨[], by simp, .nil⟩
  | .tmp t :: rs, ars, hc, vs, hv => by
    simp only [cR] at hc
    split at hc
    · rename_i l hl
      cases hc
      simp only [resV] at hv
      split at hv
      · rename_i v vs' h1 h2
        split at hv
        · rename_i hw
          cases hv
          obtain ⟨us, hr, ha⟩ := res_sound hst hl h2
          have := vl_sound (x := .tmp t) hst.frr (show cX (.tmp t) = some (.t t) from rfl) h1
          refine ⟨a.tmps.getD t undef :: us, ?_, .cons (vr_w this hw) ha⟩
          rw [List.mapM_cons]
          simp [resF, hr]
        · cases hv
      · cases hv
    · cases hc
  | .cell p t :: rs, ars, hc, vs, hv => by
    simp only [cR] at hc
    split at hc
    · rename_i n g l hn hl
      cases hc
      simp only [resV] at hv
      split at hv
      · rename_i q hq
        split at hv
        · rename_i cs vs' h1 h2
          split at hv
          · rename_i v hag
            cases hv
            obtain ⟨us, hr, ha⟩ := res_sound hst hl h2
            have had := ad_sound (x := .tmp p) hst.frr (show cX (.tmp p) = some (.t p) from rfl) hq
            obtain ⟨ad', b, off, rfl, hu, cs', c1, c2, c3⟩ := lp_cells hst (u := a.eval (.tmp p)) (by cases q <;> exact had) h1
            obtain ⟨g1, g2⟩ := ag_w c2 hag
            refine ⟨(if g then .agg cs'.toArray else cs'.headD undef) :: us, ?_, .cons g1 ha⟩
            rw [List.mapM_cons]
            have hu' : a.tmps.getD p undef = .pointer (some ⟨b, off, none⟩) := hu
            simp [resF, asAddr, loadVar_run hn c1 c3, hr, hu']
          · cases hv
        · cases hv
      · cases hv
    · cases hc

theorem one_rel {vs us : List Value} (h : A2 (WR β) vs us) : VR β (one vs) (if h : us.toArray.size = 1 then us.toArray[0] else .tuple us.toArray) := by
  cases h with
  | nil => exact .tup .nil
  | cons h t =>
    cases t with
    | nil => exact .w h
    | cons h2 t2 =>
      rw [dif_neg (by simp)]
      exact .tup (.cons h (.cons h2 t2))

theorem look_args : ∀ (vs : List Value) (i n : Nat) v, look (args0 i vs) n = some v → ∃ u, i ≤ n ∧ vs[n - i]? = some u ∧ v = .v u
  | [], i, n, v, h => by simp [args0, look] at h
  | x :: vs, i, n, v, h => by
    simp only [args0, look_cons] at h
    by_cases hin : i = n
    · rw [if_pos hin] at h
      cases h
      subst hin
      exact ⟨x, Nat.le_refl _, by simp, rfl⟩
    · rw [if_neg hin] at h
      obtain ⟨u, h1, h2, h3⟩ := look_args vs (i + 1) n v h
      refine ⟨u, by omega, ?_, h3⟩
      rw [show n - i = (n - (i + 1)) + 1 from by omega]
      simpa using h2

theorem fn_sound (hmix : P.follows .mixedOrders = true) {f : Nat} {fn : Func} {af : AF} (hf : P.funcs[f]? = some fn) (hc : cF P H keep fn = some af) {args : List Value} {Q : Value → AH → Prop} {h : AH} (hlen : args.length = af.np)
    (hw : wC (YC P B0) af.body (endQ af Q) (enter af args) h) : YC P B0 f args Q h := by
  intro hbar
  unfold cF at hc
  split at hc
  · rename_i c hb
    split at hc
    · rename_i b r hcb hcr
      split at hc
      · rename_i hcond
        cases hc
        obtain ⟨hnp, hname⟩ := hcond
        obtain ⟨e, fr', h', hq, hl, hag⟩ := wC_one (YC.sure P B0) _ hbar hw
        have hres : ∃ vs, resV fr' h' r = some vs ∧ Q (one vs) h' := by
          cases e with
          | exit id => exact hq.elim
          | normal =>
            simp only [endQ] at hq
            split at hq
            · rename_i vs hvs; exact ⟨vs, hvs, hq⟩
            · exact hq.elim
          | ret =>
            simp only [endQ] at hq
            split at hq
            · rename_i vs hvs; exact ⟨vs, hvs, hq⟩
            · exact hq.elim
        obtain ⟨vs, hvs, hQ⟩ := hres
        refine ⟨one vs, h', hQ, hl, fun β w args' hr ha => .inl ⟨by simp [callFunc, hf, hname, hb], ?_⟩⟩
        have hla := ha.len
        simp only at hlen
        refine calls_of_wp hf hb (wp_mono (code_sound (B0 := B0) (nt := fn.ntmps) (β0 := β) (h0 := h) (w0 := w) hmix hr.dom hr.b0 c b hcb (fun e1 fr1 h1 => e1 = e ∧ fr1 = fr' ∧ h1 = h') _ w
          ⟨rfl, β, List.replicate H.box.length none, enter ⟨fn.params.size + fn.nfree, H.box.length, b, r⟩ args, h, ⟨.refl β h w, hr, ?_, ?_, ?_⟩, hag _ ⟨rfl, rfl, rfl⟩⟩) ?_)
        · intro n v hv
          obtain ⟨u, _, h2, rfl⟩ := look_args args 0 n v hv
          obtain ⟨u', hu', hru⟩ := ha.get n u (by simpa using h2)
          refine .v ?_
          have hnlt : n < args'.length := (List.getElem?_eq_some_iff.mp hu').1
          have : (args'.toArray ++ Array.replicate (fn.ntmps - args'.toArray.size) undef).getD n undef = u' := by
            rw [Array.getD_eq_getD_getElem?, Array.getElem?_append_left (by simpa using hnlt)]
            simp [hu']
          rw [this]
          exact hru
        · refine ⟨by simp [enter], fun k b hk => ?_, fun k b hk => ?_, fun k k' b hk => ?_⟩ <;>
          · simp only [blk, List.getElem?_replicate] at hk
            split at hk <;> (try split at hk) <;> simp_all
        · simp; omega
        · have fin : ∀ a' w', Here B0 β h w fn.ntmps a' w' (fun fr1 h1 => fr1 = fr' ∧ h1 = h') → a'.defers = [] ∧ ∃ v, (results fn a'.tmps).run P w' = .ok v w' ∧ Ret B0 β h w (one vs) h' (.returned v) w' := by
            rintro a' w' ⟨hdf, β', lam', fr1, h1, hst, k1, k2⟩
            subst k1
            subst k2
            obtain ⟨us, hru, hrel⟩ := res_sound hst hcr hvs
            refine ⟨hdf, _, ?_, β', hst.rh, hst.step, one_rel hrel⟩
            have e1 : (results fn a'.tmps) = (do let vs ← fn.results.mapM (resF a'.tmps); pure (if h : vs.size = 1 then vs[0] else .tuple vs)) := by
              unfold results
              congr 1
            rw [e1]
            have e2 : (fn.results.mapM (resF a'.tmps)).run P w' = .ok us.toArray w' := by
              rw [Array.mapM_eq_mapM_toList]
              simp [hru]
            simp only [Sem.run_bind, e2, Result.andThen_ok, Sem.run_pure]
          intro e1 a' w' hq1
          cases e1 with
          | normal =>
            obtain ⟨hdf, β', lam', fr1, h1, hst, _, h3, h4⟩ := hq1
            exact fin a' w' ⟨hdf, β', lam', fr1, h1, hst, h3, h4⟩
          | ret =>
            obtain ⟨hdf, β', lam', fr1, h1, hst, _, h3, h4⟩ := hq1
            exact fin a' w' ⟨hdf, β', lam', fr1, h1, hst, h3, h4⟩
          | exit id =>
            obtain ⟨hdf, β', lam', fr1, h1, hst, h2, h3, h4⟩ := hq1
            subst h2
            exact hq.elim
          | _ => exact hq1.elim
      · cases hc
    · cases hc
  · cases hc

/-- The table is the program's. -/
structure Fits (P : Program) (B0 : Nat) (T : Tab) : Prop where
  mix : P.follows .mixedOrders = true
  fn : ∀ f af, T.fn f = some af → ∃ fn H keep, P.funcs[f]? = some fn ∧ cF P H keep fn = some af
  ext : ∀ f args Q h, T.ext f args Q h → YC P B0 f args Q h
/-- THE THEOREM: what the abstract machine says of a call, the model does. -/
theorem runs_sound {T : Tab} (hT : Fits P B0 T) {f : Nat} {args : List Value} {Q : Value → AH → Prop} {h : AH} (hr : Runs T f args Q h) : YC P B0 f args Q h :=
  hr (YC P B0) hT.ext fun f af args Q h hf hl hw => by
    obtain ⟨fn, H, keep, h1, h2⟩ := hT.fn f af hf
    exact fn_sound hT.mix h1 h2 hl hw
end
end Am
end Go.Proofs.YtfhlblclcdhbiaaGreatDoor
namespace Go.Proofs.YtfhlblclcdhbiaaGreatDoor
open Go
set_option linter.unusedVariables false
namespace Am
section
variable {C : CT} {fr : Fr} {h : AH} {Q : Ex → Fr → AH → Prop} {K : Fr → AH → Prop} {r : List AI} {d : Option Nat} {o : AO}
/-- Code, instructions: what is still to be run (as structures: no unfolding by itself). -/
structure WC (C : CT) (c : AC) (Q : Ex → Fr → AH → Prop) (fr : Fr) (h : AH) : Prop where
  out : wC C c Q fr h
structure WI (C : CT) (l : List AI) (K : Fr → AH → Prop) (fr : Fr) (h : AH) : Prop where
  out : wIs C l K fr h
theorem YC.mono {P : Program} {B0 f : Nat} {args : List Value} {Q Q' : Value → AH → Prop} (hy : YC P B0 f args Q h) (hq : ∀ v h', Q v h' → Q' v h') : YC P B0 f args Q' h := fun hb =>
  let ⟨v, h', h1, h2, h3⟩ := hy hb
  ⟨v, h', hq _ _ h1, h2, h3⟩
/-- A table of calls that looks at what holds behind only through what follows from it. -/
structure Mono (C : CT) : Prop where
  m : ∀ {f : Nat} {args : List Value} {Q Q' : Value → AH → Prop} {h : AH}, C f args Q h → (∀ v h', Q v h' → Q' v h') → C f args Q' h
theorem YC.m (P : Program) (B0 : Nat) : Mono (YC P B0) := ⟨YC.mono⟩
theorem wO_mono (hm : Mono C) {K K' : TV → Fr → AH → Prop} (hk : ∀ v fr h, K v fr h → K' v fr h) (hw : wO C o fr K h) : wO C o fr K' h := by
  by_cases hq : isAct o = false
  · rw [wO_quiet hq] at hw ⊢
    split at hw
    · rename_i v hv; exact hk _ _ _ hw
    · exact hw
  · cases o <;> try (exact absurd rfl hq)
    all_goals simp only [wO] at hw ⊢
    all_goals repeat' split at hw
    all_goals first
      | exact hw.elim
      | exact hk _ _ _ hw
      | exact hm.m hw fun v h' hh => hk _ _ _ hh
      | ((repeat' split) <;> first
          | exact hk _ _ _ hw
          | exact hm.m hw fun v h' hh => hk _ _ _ hh
          | (exfalso; simp_all; done)
          | (simp_all; done))
theorem wI_mono (hm : Mono C) {i : AI} {K K' : Fr → AH → Prop} (hk : ∀ fr h, K fr h → K' fr h) (hw : wI C i K fr h) : wI C i K' fr h := by
  unfold wI at hw ⊢
  split at hw
  · exact wO_mono hm (fun _ _ _ h => hk _ _ h) hw
  · split at hw
    · split at hw
      · rename_i h1 h2
        simp only [h2, if_true]
        exact wO_mono hm (fun _ _ _ h => hk _ _ h) hw
      · rename_i h1 h2
        simp only [h2, if_false]
        exact hk _ _ hw
    · exact hk _ _ hw
    · exact hw.elim
theorem wIs_mono (hm : Mono C) : ∀ {l : List AI} {K K' : Fr → AH → Prop} {fr : Fr} {h : AH}, (∀ fr h, K fr h → K' fr h) → wIs C l K fr h → wIs C l K' fr h
  | [], _, _, _, _, hk, hw => hk _ _ hw
  | i :: l, _, _, _, _, hk, hw => wI_mono hm (fun _ _ h => wIs_mono hm hk h) hw
theorem wC_mono (hm : Mono C) : ∀ {c : AC} {Q Q' : Ex → Fr → AH → Prop} {fr : Fr} {h : AH}, wC C c Q fr h → (∀ e fr h, Q e fr h → Q' e fr h) → wC C c Q' fr h := by
  intro c
  induction c with
  | skip => intro Q Q' fr h hw hq; exact hq _ _ _ hw
  | reg ops ks => intro Q Q' fr h hw hq; exact wIs_mono hm (fun _ _ h => hq _ _ _ h) hw
  | seq a b iha ihb =>
    intro Q Q' fr h hw hq
    refine iha hw fun e fr h hh => ?_
    cases e with
    | normal => exact ihb hh hq
    | exit id => exact hq _ _ _ hh
    | ret => exact hq _ _ _ hh
  | cond c a b iha ihb =>
    intro Q Q' fr h hw hq
    simp only [wC] at hw ⊢
    split at hw
    · rename_i t ht
      cases t with
      | true => simpa using iha (by simpa using hw) hq
      | false => simpa using ihb (by simpa using hw) hq
    · exact hw.elim
  | block id a iha =>
    intro Q Q' fr h hw hq
    refine iha hw fun e fr h hh => ?_
    cases e with
    | normal => exact hq _ _ _ hh
    | exit i =>
      simp only at hh ⊢
      split
      · rename_i hi; rw [if_pos hi] at hh; exact hq _ _ _ hh
      · rename_i hi; rw [if_neg hi] at hh; exact hq _ _ _ hh
    | ret => exact hq _ _ _ hh
  | loop a iha =>
    intro Q Q' fr h hw hq I hI
    refine hw I fun fr h hh => hI fr h (iha hh fun e fr h h2 => ?_)
    cases e with
    | normal => exact h2
    | exit id => exact hq _ _ _ h2
    | ret => exact hq _ _ _ h2
  | exit id => intro Q Q' fr h hw hq; exact hq _ _ _ hw
  | ret => intro Q Q' fr h hw hq; exact hq _ _ _ hw
/-- the temporaries that are held further, one by one -/
inductive Kept (tm : List (Nat × TV)) : List Nat → List (Nat × TV) → Prop where
  | nil : Kept tm [] []
  | cons {k : Nat} {v : TV} {ks : List Nat} {l : List (Nat × TV)} (h : look tm k = some v) (t : Kept tm ks l) : Kept tm (k :: ks) ((k, v) :: l)
  | skip {k : Nat} {ks : List Nat} {l : List (Nat × TV)} (h : look tm k = none) (t : Kept tm ks l) : Kept tm (k :: ks) l
theorem Kept.eq {tm : List (Nat × TV)} {ks : List Nat} {l : List (Nat × TV)} (h : Kept tm ks l) : keepL tm ks = l := by
  induction h with
  | nil => rfl
  | cons h _ ih => simp only [keepL, h, ih]
  | skip h _ ih => simp only [keepL, h, ih]
/-- what comes behind a region, behind the first of two, behind a block -/
def EndK (Q : Ex → Fr → AH → Prop) (ks : List Nat) : Fr → AH → Prop := fun fr h => Q .normal (keepT fr ks) h
def SeqQ (C : CT) (b : AC) (Q : Ex → Fr → AH → Prop) : Ex → Fr → AH → Prop := fun e fr h => match e with | .normal => WC C b Q fr h | e => Q e fr h
def BlkQ (id : Nat) (Q : Ex → Fr → AH → Prop) : Ex → Fr → AH → Prop := fun e fr h => match e with | .exit i => if i = id then Q .normal fr h else Q (.exit i) fr h | e => Q e fr h
variable {tm : List (Nat × TV)} {bx : List (Nat × List Value)}
theorem s_end {ks : List Nat} {l : List (Nat × TV)} (hk : Kept tm ks l) (hq : Q .normal ⟨l, bx⟩ h) : WI C [] (EndK Q ks) (⟨tm, bx⟩ : Fr) h := by
  constructor
  simp only [wIs, EndK, keepT, hk.eq]
  exact hq
theorem q_seq {b : AC} (hk : WC C b Q fr h) : SeqQ C b Q .normal fr h := hk
theorem q_seqx {b : AC} {i : Nat} (hk : Q (.exit i) fr h) : SeqQ C b Q (.exit i) fr h := hk
theorem q_seqr {b : AC} (hk : Q .ret fr h) : SeqQ C b Q .ret fr h := hk
theorem q_blk {id : Nat} (hk : Q .normal fr h) : BlkQ id Q .normal fr h := hk
theorem q_blkr {id : Nat} (hk : Q .ret fr h) : BlkQ id Q .ret fr h := hk
theorem q_blkx {id : Nat} (hk : Q .normal fr h) : BlkQ id Q (.exit id) fr h := by simp only [BlkQ, if_true]; exact hk
theorem q_blky {id i : Nat} (hn : Nat.beq i id = false) (hk : Q (.exit i) fr h) : BlkQ id Q (.exit i) fr h := by
  simp only [BlkQ]
  rw [if_neg (Nat.ne_of_beq_eq_false hn)]
  exact hk
/-- a quiet operation -/
theorem s_q {n : Nat} {v : TV} (hq : isAct o = false) (hv : qO o (⟨tm, bx⟩ : Fr) h = some v) (hk : WI C r K ⟨(n, v) :: tm, bx⟩ h) : WI C (⟨some n, none, o⟩ :: r) K (⟨tm, bx⟩ : Fr) h := by
  constructor
  simp only [wIs, wI]
  rw [wO_quiet hq, hv]
  exact hk.out
theorem s_pickT {n : Nat} {c x y : X} {t : Bool} {u v : Value} (hc : vl ⟨tm, bx⟩ c = some (.bool t)) (ht : t = true) (hx : vl ⟨tm, bx⟩ x = some u) (hy : vl ⟨tm, bx⟩ y = some v) (hk : WI C r K ⟨(n, .v u) :: tm, bx⟩ h) : WI C (⟨some n, none, .pick c x y⟩ :: r) K ⟨tm, bx⟩ h := by
  subst ht
  exact s_q (v := .v u) rfl (by simp [qO, hc, hx, hy]) hk
theorem s_pickF {n : Nat} {c x y : X} {t : Bool} {u v : Value} (hc : vl ⟨tm, bx⟩ c = some (.bool t)) (ht : t = false) (hx : vl ⟨tm, bx⟩ x = some u) (hy : vl ⟨tm, bx⟩ y = some v) (hk : WI C r K ⟨(n, .v v) :: tm, bx⟩ h) : WI C (⟨some n, none, .pick c x y⟩ :: r) K ⟨tm, bx⟩ h := by
  subst ht
  exact s_q (v := .v v) rfl (by simp [qO, hc, hx, hy]) hk
theorem s_g {g n : Nat} {b t : Bool} (hl : look tm g = some (.v (.bool t))) (h1 : t = b → WI C (⟨some n, none, o⟩ :: r) K (⟨tm, bx⟩ : Fr) h) (h2 : t = !b → WI C r K ⟨(n, .v undef) :: tm, bx⟩ h) : WI C (⟨some n, some (g, b), o⟩ :: r) K (⟨tm, bx⟩ : Fr) h := by
  constructor
  simp only [wIs, wI, hl]
  by_cases htb : t = b
  · rw [if_pos htb]
    exact (h1 htb).out
  · rw [if_neg htb]
    exact (h2 (by cases t <;> cases b <;> simp_all)).out
theorem s_gT {g n : Nat} {t : Bool} (hl : look tm g = some (.v (.bool t))) (h1 : t = true → WI C (⟨some n, none, o⟩ :: r) K (⟨tm, bx⟩ : Fr) h) (h2 : t = false → WI C r K ⟨(n, .v undef) :: tm, bx⟩ h) : WI C (⟨some n, some (g, true), o⟩ :: r) K (⟨tm, bx⟩ : Fr) h := s_g hl h1 h2
theorem s_gF {g n : Nat} {t : Bool} (hl : look tm g = some (.v (.bool t))) (h1 : t = false → WI C (⟨some n, none, o⟩ :: r) K (⟨tm, bx⟩ : Fr) h) (h2 : t = true → WI C r K ⟨(n, .v undef) :: tm, bx⟩ h) : WI C (⟨some n, some (g, false), o⟩ :: r) K (⟨tm, bx⟩ : Fr) h := s_g hl h1 h2
theorem s_gT1 {g n : Nat} {t : Bool} (hl : look tm g = some (.v (.bool t))) (ht : t = true) (h1 : WI C (⟨some n, none, o⟩ :: r) K (⟨tm, bx⟩ : Fr) h) : WI C (⟨some n, some (g, true), o⟩ :: r) K (⟨tm, bx⟩ : Fr) h := s_g hl (fun _ => h1) (fun h => by subst ht; cases h)
theorem s_gT0 {g n : Nat} {t : Bool} (hl : look tm g = some (.v (.bool t))) (ht : t = false) (h2 : WI C r K ⟨(n, .v undef) :: tm, bx⟩ h) : WI C (⟨some n, some (g, true), o⟩ :: r) K (⟨tm, bx⟩ : Fr) h := s_g hl (fun h => by subst ht; cases h) (fun _ => h2)
theorem s_gF1 {g n : Nat} {t : Bool} (hl : look tm g = some (.v (.bool t))) (ht : t = false) (h1 : WI C (⟨some n, none, o⟩ :: r) K (⟨tm, bx⟩ : Fr) h) : WI C (⟨some n, some (g, false), o⟩ :: r) K (⟨tm, bx⟩ : Fr) h := s_g hl (fun _ => h1) (fun h => by subst ht; cases h)
theorem s_gF0 {g n : Nat} {t : Bool} (hl : look tm g = some (.v (.bool t))) (ht : t = true) (h2 : WI C r K ⟨(n, .v undef) :: tm, bx⟩ h) : WI C (⟨some n, some (g, false), o⟩ :: r) K (⟨tm, bx⟩ : Fr) h := s_g hl (fun h => by subst ht; cases h) (fun _ => h2)
/-- a guard that has itself been passed over -/
theorem s_gU {g n : Nat} {b : Bool} {vs : Array Value} (hl : look tm g = some (.v (.tuple vs))) (h2 : WI C r K ⟨(n, .v undef) :: tm, bx⟩ h) : WI C (⟨some n, some (g, b), o⟩ :: r) K (⟨tm, bx⟩ : Fr) h := by
  constructor
  simp only [wIs, wI, hl]
  exact h2.out
theorem s_call {n f : Nat} {args : List X} {vs : List Value} (hv : vls (⟨tm, bx⟩ : Fr) args = some vs) (hk : C f vs (fun v h' => WI C r K ⟨(n, .v v) :: tm, bx⟩ h') h) (hm : Mono C) : WI C (⟨some n, none, .call f args false⟩ :: r) K (⟨tm, bx⟩ : Fr) h := by
  constructor
  simp only [wIs, wI, wO, hv, Bool.false_eq_true, if_false]
  exact hm.m hk fun v h' hw => hw.out
theorem s_callb {n f : Nat} {args : List X} {vs : List Value} (hv : vls (⟨tm, bx⟩ : Fr) args = some vs) (hk : C f vs (fun v h' => WI C r K ⟨(n, .v v) :: tm, bx⟩ { h' with bar := h.bar }) { h with bar := h.ob.length })
    (hm : Mono C) : WI C (⟨some n, none, .call f args true⟩ :: r) K (⟨tm, bx⟩ : Fr) h := by
  constructor
  simp only [wIs, wI, wO, hv, if_true]
  exact hm.m hk fun v h' hw => hw.out
/-- a list with its k-th place put anew -/
inductive SetAt {α : Type} : List α → Nat → α → List α → Prop where
  | z {a x : α} {l : List α} : SetAt (a :: l) 0 x (x :: l)
  | s {a x : α} {k : Nat} {l l' : List α} (h : SetAt l k x l') : SetAt (a :: l) (k + 1) x (a :: l')
theorem SetAt.eq {α : Type} {l l' : List α} {k : Nat} {x : α} (h : SetAt l k x l') : l.set k x = l' := by
  induction h with
  | z => rfl
  | s _ ih => simp [ih]
theorem s_lbox {n k g : Nat} {x : X} {v : Value} {cs : List Value} {bx' : List (Nat × List Value)} (hv : vl (⟨tm, bx⟩ : Fr) x = some v) (hw : isW v = true) (hb : bx[k]? = some (g, cs)) (hs : SetAt bx k (g + 1, cl v) bx') (hk : WI C r K ⟨(n, .l k (g + 1) 0) :: tm, bx'⟩ h) : WI C (⟨some n, none, .lbox k x⟩ :: r) K (⟨tm, bx⟩ : Fr) h := by
  constructor
  simp only [wIs, wI, wO, hv]
  rw [if_pos ⟨hw, (List.getElem?_eq_some_iff.mp hb).1⟩]
  have := hk.out
  simpa [Fr.put, Am.put, Fr.box, Fr.gen, hb, hs.eq] using this
theorem s_lalloc {n k g : Nat} {z cs : List Value} {bx' : List (Nat × List Value)} (hb : bx[k]? = some (g, cs)) (hs : SetAt bx k (g + 1, z) bx') (hk : WI C r K ⟨(n, .l k (g + 1) 0) :: tm, bx'⟩ h) : WI C (⟨some n, none, .lalloc k z⟩ :: r) K (⟨tm, bx⟩ : Fr) h := by
  constructor
  simp only [wIs, wI, wO]
  rw [if_pos (List.getElem?_eq_some_iff.mp hb).1]
  have := hk.out
  simpa [Fr.put, Am.put, Fr.box, Fr.gen, hb, hs.eq] using this
theorem s_lstore {n k g off : Nat} {a x : X} {v : Value} {cs cs' : List Value} {bx' : List (Nat × List Value)} (ha : ad (⟨tm, bx⟩ : Fr) a = some (.l k g off)) (hv : vl (⟨tm, bx⟩ : Fr) x = some v) (hc : (isW v && Nat.beq (cl v).length n) = true) (hb : bx[k]? = some (g, cs)) (ho : over cs off (cl v) = some cs') (hs : SetAt bx k (g, cs') bx')
    (hk : WI C r K ⟨tm, bx'⟩ h) : WI C (⟨none, none, .lstore n a x⟩ :: r) K (⟨tm, bx⟩ : Fr) h := by
  constructor
  simp only [wIs, wI, wO, ha, hv]
  simp only [Bool.and_eq_true, Nat.beq_eq] at hc
  rw [if_pos hc, hb]
  simp only [if_true, ho]
  have := hk.out
  simpa [Fr.put, hs.eq] using this
theorem s_store {n b off : Nat} {a x : X} {v : Value} {h' : AH} (ha : ad (⟨tm, bx⟩ : Fr) a = some (.h b off)) (hv : vl (⟨tm, bx⟩ : Fr) x = some v) (hc : (isW v && Nat.beq (cl v).length n) = true) (hw : wr h b off (cl v) = some h')
    (hk : WI C r K (⟨tm, bx⟩ : Fr) h') : WI C (⟨none, none, .store n a x⟩ :: r) K (⟨tm, bx⟩ : Fr) h := by
  constructor
  simp only [wIs, wI, wO, ha, hv]
  simp only [Bool.and_eq_true, Nat.beq_eq] at hc
  rw [if_pos hc, hw]
  exact hk.out
theorem c_reg {ops : List AI} {ds : List Nat} (hk : WI C ops (EndK Q ds) fr h) : WC C (.reg ops ds) Q fr h := ⟨hk.out⟩
theorem c_skip (hk : Q .normal fr h) : WC C .skip Q fr h := ⟨hk⟩
theorem c_ret (hk : Q .ret fr h) : WC C .ret Q fr h := ⟨hk⟩
theorem c_exit {id : Nat} (hk : Q (.exit id) fr h) : WC C (.exit id) Q fr h := ⟨hk⟩
theorem c_block {id : Nat} {a : AC} (hk : WC C a (BlkQ id Q) fr h) : WC C (.block id a) Q fr h := ⟨hk.out⟩
theorem c_cond {c : X} {a b : AC} {t : Bool} (hc : vl fr c = some (.bool t)) (h1 : t = true → WC C a Q fr h) (h2 : t = false → WC C b Q fr h) : WC C (.cond c a b) Q fr h := by
  constructor
  simp only [wC, hc]
  cases t with
  | true => exact (h1 rfl).out
  | false => exact (h2 rfl).out
theorem e_ret {af : AF} {Q : Value → AH → Prop} {vs : List Value} (hv : resV fr h af.res = some vs) (hk : Q (one vs) h) : endQ af Q .ret fr h := by
  simp only [endQ, hv]
  exact hk
theorem c_seq (hm : Mono C) {a b : AC} (hk : WC C a (SeqQ C b Q) fr h) : WC C (.seq a b) Q fr h := by
  constructor
  simp only [wC]
  refine wC_mono hm hk.out fun e fr h hq => ?_
  cases e with
  | normal => exact WC.out hq
  | exit id => exact hq
  | ret => exact hq
/-- a round of a loop -/
theorem c_loop (hm : Mono C) {a : AC} (hk : WC C a (SeqQ C (.loop a) Q) fr h) : WC C (.loop a) Q fr h := by
  constructor
  intro I hI
  refine hI _ _ (wC_mono hm hk.out fun e fr h hq => ?_)
  cases e with
  | normal => exact (WC.out hq) I hI
  | exit id => exact hq
  | ret => exact hq
end
end Am
end Go.Proofs.YtfhlblclcdhbiaaGreatDoor

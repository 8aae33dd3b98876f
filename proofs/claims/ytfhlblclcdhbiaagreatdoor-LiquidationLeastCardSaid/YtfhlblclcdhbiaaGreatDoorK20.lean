/- A law's checks. -/
import Derived.Test.YtfhlblclcdhbiaaGreatDoorK19
namespace Go.Proofs.YtfhlblclcdhbiaaGreatDoor
open Go
set_option linter.unusedVariables false
set_option linter.unusedSimpArgs false
namespace Am
section
variable {C : CT} {fr : Fr} {h : AH} {K : Fr → AH → Prop} {r : List AI} {tm : List (Nat × TV)} {bx : List (Nat × List Value)}
theorem s_callv {n f : Nat} {g : X} {args : List X} {vs : List Value} (hg : vl (⟨tm, bx⟩ : Fr) g = some (.func (.func f) #[] #[])) (hv : vls (⟨tm, bx⟩ : Fr) args = some vs) (hk : C f vs (fun v h' => WI C r K ⟨(n, .v v) :: tm, bx⟩ h') h) (hm : Mono C) : WI C (⟨some n, none, .callv g args false⟩ :: r) K (⟨tm, bx⟩ : Fr) h := by
  constructor
  simp only [wIs, wI, wO, hv, hg, Bool.false_eq_true, if_false]
  simp
  exact hm.m hk fun v h' hw => hw.out
end
section
variable {B0 : Nat} {Q : Value → AH → Prop} {h : AH}
def badT (t : Tri) : Prop := sgn t.q < 0
def badV (x : Vt) : Prop := badT x.am ∨ badT x.ask
def Vt.Le (x : Vt) (K : Nat) : Prop := x.am.Le K ∧ x.ask.Le K
theorem k59 {x : Vt} (hx : x.Le 68719476736) (hq : ∀ (b : Bool) h', Ext h h' → (b = true ↔ badV x) → Q (.bool b) h') : YC Tryz.prog B0 59 [x.v] Q h := by
  obtain ⟨hx1, hx2⟩ := hx
  refine enterF mix Tryz.func59 ok59 rfl (tm := [(0, _)]) (bx := [_]) rfl rfl fun hp => ?_
  repeat' first | (with_reducible first | exact SetAt.z | apply SetAt.s | apply s_end | exact Kept.nil) | refine qq (hk := ?_) | ((with_reducible first | apply Kept.cons | apply q_blky); rfl) | ((with_reducible apply Kept.skip); rfl) | (apply s_q; rfl; (first | ((with_reducible apply q_llAm (y := x)); rfl; rfl) | ((with_reducible apply q_llAsk (y := x)); rfl; rfl))) | refine wq (hk := ?_) | (apply c_condP; rfl; exact bpx; all_goals intro hc) | ((first | apply s_gTP | apply s_gFP); rfl; exact bpx; all_goals intro hg) | (apply s_lalloc; rfl) | ((first | apply s_lbox | apply s_lstoreR); rfl; rfl; rfl) | (apply s_lstore; rfl; rfl; rfl; rfl; rfl) | (apply s_callB (hm := YC.m _ _); rfl; intro h3 o3 b3)
  refine k60' (t := x.am) hx1 fun h1 e1 => ?_
  repeat' first | (with_reducible first | exact SetAt.z | apply SetAt.s | apply s_end | exact Kept.nil) | refine qq (hk := ?_) | ((with_reducible first | apply Kept.cons | apply q_blky); rfl) | ((with_reducible apply Kept.skip); rfl) | (apply s_q; rfl; (first | ((with_reducible apply q_llAm (y := x)); rfl; rfl) | ((with_reducible apply q_llAsk (y := x)); rfl; rfl))) | refine wq (hk := ?_) | (apply c_condP; rfl; exact bpx; all_goals intro hc) | ((first | apply s_gTP | apply s_gFP); rfl; exact bpx; all_goals intro hg) | (apply s_lalloc; rfl) | ((first | apply s_lbox | apply s_lstoreR); rfl; rfl; rfl) | (apply s_lstore; rfl; rfl; rfl; rfl; rfl) | (apply s_callB (hm := YC.m _ _); rfl; intro h3 o3 b3) | ((with_reducible refine YCi (f := 60) ?_); (refine k60' (t := x.ask) hx2 fun h2 e2 => ?_))
  · exact hq _ _ exty (by simp only [badV, badT, decide_eq_true_eq]; exact ⟨Or.inr, fun hh => hh.resolve_left hg⟩)
  · exact hq _ _ exty (by simp only [badV, badT, true_iff]; exact Or.inl hg)
theorem k63 {t : Tri} (ht : t.Le 68719476736) (hq : ∀ (b : Bool) h', Ext h h' → (b = true ↔ badT t) → Q (.bool b) h') : YC Tryz.prog B0 63 [t.v] Q h := by
  refine enterF mix Tryz.func63 ok63 rfl (tm := [(0, _)]) (bx := [_]) rfl rfl fun hp => ?_
  repeat' first | (with_reducible first | exact SetAt.z | apply SetAt.s | apply s_end | exact Kept.nil) | refine qq (hk := ?_) | ((with_reducible first | apply Kept.cons | apply q_blky); rfl) | ((with_reducible apply Kept.skip); rfl) | refine wq (hk := ?_) | (apply c_condP; rfl; exact bpx; all_goals intro hc) | ((first | apply s_gTP | apply s_gFP); rfl; exact bpx; all_goals intro hg) | (apply s_lalloc; rfl) | ((first | apply s_lbox | apply s_lstoreR); rfl; rfl; rfl) | (apply s_lstore; rfl; rfl; rfl; rfl; rfl) | (apply s_callB (hm := YC.m _ _); rfl; intro h3 o3 b3) | ((with_reducible refine YCi (f := 60) ?_); (refine k60' (t := t) ht fun h1 e1 => ?_))
  exact hq _ _ exty (by simp [badT])
theorem k92 {l : List Vt} {v : Value} (hl : l.length ≤ 9223372036854775807) (hv : VS h.ob l v) (hle : ∀ x ∈ l, x.Le 68719476736) (hq : ∀ (r : Int) h', Ext h h' → (0 ≤ r ↔ ∃ x ∈ l, badV x) → Q (.int .i64 r) h') : YC Tryz.prog B0 92 [v, .func (.func 59) #[] #[]] Q h := by
  refine enterF mix Tryz.func92 ok92 rfl (tm := [(0, _), (1, _)]) (bx := []) rfl rfl fun hp => ?_
  repeat' first | (with_reducible first | exact SetAt.z | apply SetAt.s | apply s_end | exact Kept.nil) | refine qq (hk := ?_) | ((with_reducible first | apply Kept.cons | apply q_blky); rfl) | ((with_reducible apply Kept.skip); rfl) | refine wq (hk := ?_) | (apply c_condP; rfl; exact bpx; all_goals intro hc) | ((first | apply s_gTP | apply s_gFP); rfl; exact bpx; all_goals intro hg) | (apply s_lalloc; rfl) | ((first | apply s_lbox | apply s_lstoreR); rfl; rfl; rfl) | (apply s_lstore; rfl; rfl; rfl; rfl; rfl) | (apply s_callB (hm := YC.m _ _); rfl; intro h3 o3 b3)
  refine loopI (YC.m _ _) (fun n fr h' => ∃ (i : Nat), n = l.length - i ∧ Ext h h' ∧ i ≤ l.length ∧ (∀ k x, k < i → l[k]? = some x → ¬ badV x) ∧ fr = ⟨[(0, .v v), (1, .v (.func (.func 59) #[] #[])), (7, .v (.int .i64 l.length)), (8, .v (.int .i64 i))], []⟩) l.length
    ⟨0, by omega, Ext.refl h, by omega, by omega, rfl⟩ ?_
  rintro n fr h' ⟨i, rfl, e, hi, hall, rfl⟩
  have hv' := hv.ext e
  by_cases hlt : i < l.length
  · obtain ⟨x, hx⟩ := get_lt hlt
    have hxm := List.mem_of_getElem? hx
    repeat' first | (with_reducible first | exact SetAt.z | apply SetAt.s | apply s_end | exact Kept.nil) | refine qq (hk := ?_) | ((with_reducible first | apply Kept.cons | apply q_blky); rfl) | ((with_reducible apply Kept.skip); rfl) | (apply s_q; rfl; (first | ((with_reducible apply q_iaTN); rfl; rfl; (with_reducible rfl); assumption; omega) | ((with_reducible apply q_ldVt); rfl; assumption; assumption))) | refine wq (hk := ?_) | (apply c_condP; rfl; exact bpx; all_goals intro hc) | ((first | apply s_gTP | apply s_gFP); rfl; exact bpx; all_goals intro hg) | (apply s_lalloc; rfl) | ((first | apply s_lbox | apply s_lstoreR); rfl; rfl; rfl) | (apply s_lstore; rfl; rfl; rfl; rfl; rfl) | (apply s_callB (hm := YC.m _ _); rfl; intro h3 o3 b3) | ((with_reducible apply s_callv (hm := YC.m _ _)); rfl; rfl)
    refine k59 (hle x hxm) fun b h1 e1 hb => ?_
    cases b with
    | true =>
      repeat' first | (with_reducible first | exact SetAt.z | apply SetAt.s | apply s_end | exact Kept.nil) | refine qq (hk := ?_) | ((with_reducible first | apply Kept.cons | apply q_blky); rfl) | ((with_reducible apply Kept.skip); rfl) | refine wq (hk := ?_) | (apply c_condP; rfl; exact bpx; all_goals intro hc) | ((first | apply s_gTP | apply s_gFP); rfl; exact bpx; all_goals intro hg) | (apply s_lalloc; rfl) | ((first | apply s_lbox | apply s_lstoreR); rfl; rfl; rfl) | (apply s_lstore; rfl; rfl; rfl; rfl; rfl) | (apply s_callB (hm := YC.m _ _); rfl; intro h3 o3 b3)
      · exact hq _ _ exty ⟨fun _ => ⟨x, hxm, hb.mp rfl⟩, fun _ => by omega⟩
    | false =>
      repeat' first | (with_reducible first | exact SetAt.z | apply SetAt.s | apply s_end | exact Kept.nil) | refine qq (hk := ?_) | ((with_reducible first | apply Kept.cons | apply q_blky); rfl) | ((with_reducible apply Kept.skip); rfl) | refine wq (hk := ?_) | (apply c_condP; rfl; exact bpx; all_goals intro hc) | ((first | apply s_gTP | apply s_gFP); rfl; exact bpx; all_goals intro hg) | (apply s_lalloc; rfl) | ((first | apply s_lbox | apply s_lstoreR); rfl; rfl; rfl) | (apply s_lstore; rfl; rfl; rfl; rfl; rfl) | (apply s_callB (hm := YC.m _ _); rfl; intro h3 o3 b3)
      refine q_seql (m := l.length - (i + 1)) (by omega) ⟨i + 1, rfl, exty, by omega, fun k t hk ht => ?_, rfl⟩
      by_cases hki : k = i
      · subst hki; rw [hx] at ht; cases ht; exact fun hh => absurd (hb.mpr hh) (by simp)
      · exact hall k t (by omega) ht
  · repeat' first | (with_reducible first | exact SetAt.z | apply SetAt.s | apply s_end | exact Kept.nil) | refine qq (hk := ?_) | ((with_reducible first | apply Kept.cons | apply q_blky); rfl) | ((with_reducible apply Kept.skip); rfl) | refine wq (hk := ?_) | (apply c_condP; rfl; exact bpx; all_goals intro hc) | ((first | apply s_gTP | apply s_gFP); rfl; exact bpx; all_goals intro hg) | (apply s_lalloc; rfl) | ((first | apply s_lbox | apply s_lstoreR); rfl; rfl; rfl) | (apply s_lstore; rfl; rfl; rfl; rfl; rfl) | (apply s_callB (hm := YC.m _ _); rfl; intro h3 o3 b3)
    refine hq _ _ exty ⟨fun hh => absurd hh (by omega), fun ⟨x, hx, hb⟩ => ?_⟩
    obtain ⟨k, hk⟩ := List.getElem?_of_mem hx
    exact absurd hb (hall k x (by have := (List.getElem?_eq_some_iff.mp hk).1; omega) hk)
theorem k93 {l : List Tri} {v : Value} (hl : l.length ≤ 9223372036854775807) (hv : RS h.ob l v) (hle : ∀ x ∈ l, x.Le 68719476736) (hq : ∀ (r : Int) h', Ext h h' → (0 ≤ r ↔ ∃ x ∈ l, badT x) → Q (.int .i64 r) h') : YC Tryz.prog B0 93 [v, .func (.func 63) #[] #[]] Q h := by
  refine enterF mix Tryz.func93 ok93 rfl (tm := [(0, _), (1, _)]) (bx := []) rfl rfl fun hp => ?_
  repeat' first | (with_reducible first | exact SetAt.z | apply SetAt.s | apply s_end | exact Kept.nil) | refine qq (hk := ?_) | ((with_reducible first | apply Kept.cons | apply q_blky); rfl) | ((with_reducible apply Kept.skip); rfl) | refine wq (hk := ?_) | (apply c_condP; rfl; exact bpx; all_goals intro hc) | ((first | apply s_gTP | apply s_gFP); rfl; exact bpx; all_goals intro hg) | (apply s_lalloc; rfl) | ((first | apply s_lbox | apply s_lstoreR); rfl; rfl; rfl) | (apply s_lstore; rfl; rfl; rfl; rfl; rfl) | (apply s_callB (hm := YC.m _ _); rfl; intro h3 o3 b3)
  refine loopI (YC.m _ _) (fun n fr h' => ∃ (i : Nat), n = l.length - i ∧ Ext h h' ∧ i ≤ l.length ∧ (∀ k x, k < i → l[k]? = some x → ¬ badT x) ∧ fr = ⟨[(0, .v v), (1, .v (.func (.func 63) #[] #[])), (7, .v (.int .i64 l.length)), (8, .v (.int .i64 i))], []⟩) l.length
    ⟨0, by omega, Ext.refl h, by omega, by omega, rfl⟩ ?_
  rintro n fr h' ⟨i, rfl, e, hi, hall, rfl⟩
  have hv' := hv.ext e
  by_cases hlt : i < l.length
  · obtain ⟨x, hx⟩ := get_lt hlt
    have hxm := List.mem_of_getElem? hx
    repeat' first | (with_reducible first | exact SetAt.z | apply SetAt.s | apply s_end | exact Kept.nil) | refine qq (hk := ?_) | ((with_reducible first | apply Kept.cons | apply q_blky); rfl) | ((with_reducible apply Kept.skip); rfl) | (apply s_q; rfl; (first | ((with_reducible apply q_iaTN); rfl; rfl; (with_reducible rfl); assumption; omega) | ((with_reducible apply q_ldTri); rfl; assumption; assumption))) | refine wq (hk := ?_) | (apply c_condP; rfl; exact bpx; all_goals intro hc) | ((first | apply s_gTP | apply s_gFP); rfl; exact bpx; all_goals intro hg) | (apply s_lalloc; rfl) | ((first | apply s_lbox | apply s_lstoreR); rfl; rfl; rfl) | (apply s_lstore; rfl; rfl; rfl; rfl; rfl) | (apply s_callB (hm := YC.m _ _); rfl; intro h3 o3 b3) | ((with_reducible apply s_callv (hm := YC.m _ _)); rfl; rfl)
    refine k63 (hle x hxm) fun b h1 e1 hb => ?_
    cases b with
    | true =>
      repeat' first | (with_reducible first | exact SetAt.z | apply SetAt.s | apply s_end | exact Kept.nil) | refine qq (hk := ?_) | ((with_reducible first | apply Kept.cons | apply q_blky); rfl) | ((with_reducible apply Kept.skip); rfl) | refine wq (hk := ?_) | (apply c_condP; rfl; exact bpx; all_goals intro hc) | ((first | apply s_gTP | apply s_gFP); rfl; exact bpx; all_goals intro hg) | (apply s_lalloc; rfl) | ((first | apply s_lbox | apply s_lstoreR); rfl; rfl; rfl) | (apply s_lstore; rfl; rfl; rfl; rfl; rfl) | (apply s_callB (hm := YC.m _ _); rfl; intro h3 o3 b3)
      · exact hq _ _ exty ⟨fun _ => ⟨x, hxm, hb.mp rfl⟩, fun _ => by omega⟩
    | false =>
      repeat' first | (with_reducible first | exact SetAt.z | apply SetAt.s | apply s_end | exact Kept.nil) | refine qq (hk := ?_) | ((with_reducible first | apply Kept.cons | apply q_blky); rfl) | ((with_reducible apply Kept.skip); rfl) | refine wq (hk := ?_) | (apply c_condP; rfl; exact bpx; all_goals intro hc) | ((first | apply s_gTP | apply s_gFP); rfl; exact bpx; all_goals intro hg) | (apply s_lalloc; rfl) | ((first | apply s_lbox | apply s_lstoreR); rfl; rfl; rfl) | (apply s_lstore; rfl; rfl; rfl; rfl; rfl) | (apply s_callB (hm := YC.m _ _); rfl; intro h3 o3 b3)
      refine q_seql (m := l.length - (i + 1)) (by omega) ⟨i + 1, rfl, exty, by omega, fun k t hk ht => ?_, rfl⟩
      by_cases hki : k = i
      · subst hki; rw [hx] at ht; cases ht; exact fun hh => absurd (hb.mpr hh) (by simp)
      · exact hall k t (by omega) ht
  · repeat' first | (with_reducible first | exact SetAt.z | apply SetAt.s | apply s_end | exact Kept.nil) | refine qq (hk := ?_) | ((with_reducible first | apply Kept.cons | apply q_blky); rfl) | ((with_reducible apply Kept.skip); rfl) | refine wq (hk := ?_) | (apply c_condP; rfl; exact bpx; all_goals intro hc) | ((first | apply s_gTP | apply s_gFP); rfl; exact bpx; all_goals intro hg) | (apply s_lalloc; rfl) | ((first | apply s_lbox | apply s_lstoreR); rfl; rfl; rfl) | (apply s_lstore; rfl; rfl; rfl; rfl; rfl) | (apply s_callB (hm := YC.m _ _); rfl; intro h3 o3 b3)
    refine hq _ _ exty ⟨fun hh => absurd hh (by omega), fun ⟨x, hx, hb⟩ => ?_⟩
    obtain ⟨k, hk⟩ := List.getElem?_of_mem hx
    exact absurd hb (hall k x (by have := (List.getElem?_eq_some_iff.mp hk).1; omega) hk)
theorem k61 {l : List Vt} {v : Value} (hl : l.length ≤ 9223372036854775807) (hv : VS h.ob l v) (hle : ∀ x ∈ l, x.Le 68719476736) (hq : ∀ (b : Bool) h', Ext h h' → (b = true ↔ ∃ x ∈ l, badV x) → Q (.bool b) h') : YC Tryz.prog B0 61 [v, .func (.func 59) #[] #[]] Q h := by
  refine enterF mix Tryz.func61 ok61 rfl (tm := [(0, _), (1, _)]) (bx := []) rfl rfl fun hp => ?_
  repeat' first | (with_reducible first | exact SetAt.z | apply SetAt.s | apply s_end | exact Kept.nil) | refine qq (hk := ?_) | ((with_reducible first | apply Kept.cons | apply q_blky); rfl) | ((with_reducible apply Kept.skip); rfl) | refine wq (hk := ?_) | (apply c_condP; rfl; exact bpx; all_goals intro hc) | ((first | apply s_gTP | apply s_gFP); rfl; exact bpx; all_goals intro hg) | (apply s_lalloc; rfl) | ((first | apply s_lbox | apply s_lstoreR); rfl; rfl; rfl) | (apply s_lstore; rfl; rfl; rfl; rfl; rfl) | (apply s_callB (hm := YC.m _ _); rfl; intro h3 o3 b3) | ((with_reducible refine YCi (f := 92) ?_); (refine k92 hl hv hle fun r h1 e1 hr => ?_))
  exact hq _ _ exty (by rw [decide_eq_true_eq]; exact hr)
theorem k62 {l : List Tri} {v : Value} (hl : l.length ≤ 9223372036854775807) (hv : RS h.ob l v) (hle : ∀ x ∈ l, x.Le 68719476736) (hq : ∀ (b : Bool) h', Ext h h' → (b = true ↔ ∃ x ∈ l, badT x) → Q (.bool b) h') : YC Tryz.prog B0 62 [v, .func (.func 63) #[] #[]] Q h := by
  refine enterF mix Tryz.func62 ok62 rfl (tm := [(0, _), (1, _)]) (bx := []) rfl rfl fun hp => ?_
  repeat' first | (with_reducible first | exact SetAt.z | apply SetAt.s | apply s_end | exact Kept.nil) | refine qq (hk := ?_) | ((with_reducible first | apply Kept.cons | apply q_blky); rfl) | ((with_reducible apply Kept.skip); rfl) | refine wq (hk := ?_) | (apply c_condP; rfl; exact bpx; all_goals intro hc) | ((first | apply s_gTP | apply s_gFP); rfl; exact bpx; all_goals intro hg) | (apply s_lalloc; rfl) | ((first | apply s_lbox | apply s_lstoreR); rfl; rfl; rfl) | (apply s_lstore; rfl; rfl; rfl; rfl; rfl) | (apply s_callB (hm := YC.m _ _); rfl; intro h3 o3 b3) | ((with_reducible refine YCi (f := 93) ?_); (refine k93 hl hv hle fun r h1 e1 hr => ?_))
  exact hq _ _ exty (by rw [decide_eq_true_eq]; exact hr)
open Classical in
noncomputable def chk (l : List Vt) (vs : List Tri) : Int := if 64 < l.length then 2 else if vs.length ≠ l.length then 4 else if (∃ x ∈ l, badV x) ∨ ∃ t ∈ vs, badT t then 7 else 0
theorem k28 {l : List Vt} {vs : List Tri} {v w : Value} (hl : l.length ≤ 9223372036854775807) (hl2 : vs.length ≤ 9223372036854775807) (hv : VS h.ob l v) (hw : RS h.ob vs w) (hle : ∀ x ∈ l, x.Le 68719476736) (hle2 : ∀ x ∈ vs, x.Le 68719476736)
    (hq : ∀ h', Ext h h' → Q (.int .i64 (chk l vs)) h') : YC Tryz.prog B0 28 [v, w] Q h := by
  refine enterF mix Tryz.func28 ok28 rfl (tm := [(0, _), (1, _)]) (bx := []) rfl rfl fun hp => ?_
  unfold chk at hq
  by_cases h64 : l.length > 64
  · rw [if_pos (by omega)] at hq
    repeat' first | (with_reducible first | exact SetAt.z | apply SetAt.s | apply s_end | exact Kept.nil) | refine qq (hk := ?_) | ((with_reducible first | apply Kept.cons | apply q_blky); rfl) | ((with_reducible apply Kept.skip); rfl) | refine wq (hk := ?_) | (apply c_condP; rfl; exact bpx; all_goals intro hc) | ((first | apply s_gTP | apply s_gFP); rfl; exact bpx; all_goals intro hg) | (apply s_lalloc; rfl) | ((first | apply s_lbox | apply s_lstoreR); rfl; rfl; rfl) | (apply s_lstore; rfl; rfl; rfl; rfl; rfl) | (apply s_callB (hm := YC.m _ _); rfl; intro h3 o3 b3)
    exact hq _ exty
  rw [if_neg (by omega)] at hq
  by_cases hn : vs.length = l.length
  · rw [if_neg (by omega)] at hq
    repeat' first | (with_reducible first | exact SetAt.z | apply SetAt.s | apply s_end | exact Kept.nil) | refine qq (hk := ?_) | ((with_reducible first | apply Kept.cons | apply q_blky); rfl) | ((with_reducible apply Kept.skip); rfl) | refine wq (hk := ?_) | (apply c_condP; rfl; exact bpx; all_goals intro hc) | ((first | apply s_gTP | apply s_gFP); rfl; exact bpx; all_goals intro hg) | (apply s_lalloc; rfl) | ((first | apply s_lbox | apply s_lstoreR); rfl; rfl; rfl) | (apply s_lstore; rfl; rfl; rfl; rfl; rfl) | (apply s_callB (hm := YC.m _ _); rfl; intro h3 o3 b3)
    refine k61 hl hv hle fun b h1 e1 hb => ?_
    have hw1 := hw.ext e1
    cases b with
    | true =>
      rw [if_pos (.inl (hb.mp rfl))] at hq
      repeat' first | (with_reducible first | exact SetAt.z | apply SetAt.s | apply s_end | exact Kept.nil) | refine qq (hk := ?_) | ((with_reducible first | apply Kept.cons | apply q_blky); rfl) | ((with_reducible apply Kept.skip); rfl) | refine wq (hk := ?_) | (apply c_condP; rfl; exact bpx; all_goals intro hc) | ((first | apply s_gTP | apply s_gFP); rfl; exact bpx; all_goals intro hg) | (apply s_lalloc; rfl) | ((first | apply s_lbox | apply s_lstoreR); rfl; rfl; rfl) | (apply s_lstore; rfl; rfl; rfl; rfl; rfl) | (apply s_callB (hm := YC.m _ _); rfl; intro h3 o3 b3)
      · exact hq _ exty
    | false =>
      repeat' first | (with_reducible first | exact SetAt.z | apply SetAt.s | apply s_end | exact Kept.nil) | refine qq (hk := ?_) | ((with_reducible first | apply Kept.cons | apply q_blky); rfl) | ((with_reducible apply Kept.skip); rfl) | refine wq (hk := ?_) | (apply c_condP; rfl; exact bpx; all_goals intro hc) | ((first | apply s_gTP | apply s_gFP); rfl; exact bpx; all_goals intro hg) | (apply s_lalloc; rfl) | ((first | apply s_lbox | apply s_lstoreR); rfl; rfl; rfl) | (apply s_lstore; rfl; rfl; rfl; rfl; rfl) | (apply s_callB (hm := YC.m _ _); rfl; intro h3 o3 b3)
      refine k62 hl2 hw1 hle2 fun b h2 e2 hb2 => ?_
      cases b with
      | true =>
        rw [if_pos (.inr (hb2.mp rfl))] at hq
        repeat' first | (with_reducible first | exact SetAt.z | apply SetAt.s | apply s_end | exact Kept.nil) | refine qq (hk := ?_) | ((with_reducible first | apply Kept.cons | apply q_blky); rfl) | ((with_reducible apply Kept.skip); rfl) | refine wq (hk := ?_) | (apply c_condP; rfl; exact bpx; all_goals intro hc) | ((first | apply s_gTP | apply s_gFP); rfl; exact bpx; all_goals intro hg) | (apply s_lalloc; rfl) | ((first | apply s_lbox | apply s_lstoreR); rfl; rfl; rfl) | (apply s_lstore; rfl; rfl; rfl; rfl; rfl) | (apply s_callB (hm := YC.m _ _); rfl; intro h3 o3 b3)
        · exact hq _ exty
      | false =>
        rw [if_neg (fun hh => hh.elim (fun hh => absurd (hb.mpr hh) (by simp)) (fun hh => absurd (hb2.mpr hh) (by simp)))] at hq
        repeat' first | (with_reducible first | exact SetAt.z | apply SetAt.s | apply s_end | exact Kept.nil) | refine qq (hk := ?_) | ((with_reducible first | apply Kept.cons | apply q_blky); rfl) | ((with_reducible apply Kept.skip); rfl) | refine wq (hk := ?_) | (apply c_condP; rfl; exact bpx; all_goals intro hc) | ((first | apply s_gTP | apply s_gFP); rfl; exact bpx; all_goals intro hg) | (apply s_lalloc; rfl) | ((first | apply s_lbox | apply s_lstoreR); rfl; rfl; rfl) | (apply s_lstore; rfl; rfl; rfl; rfl; rfl) | (apply s_callB (hm := YC.m _ _); rfl; intro h3 o3 b3)
        · exact hq _ exty
  · rw [if_pos (by omega)] at hq
    repeat' first | (with_reducible first | exact SetAt.z | apply SetAt.s | apply s_end | exact Kept.nil) | refine qq (hk := ?_) | ((with_reducible first | apply Kept.cons | apply q_blky); rfl) | ((with_reducible apply Kept.skip); rfl) | refine wq (hk := ?_) | (apply c_condP; rfl; exact bpx; all_goals intro hc) | ((first | apply s_gTP | apply s_gFP); rfl; exact bpx; all_goals intro hg) | (apply s_lalloc; rfl) | ((first | apply s_lbox | apply s_lstoreR); rfl; rfl; rfl) | (apply s_lstore; rfl; rfl; rfl; rfl; rfl) | (apply s_callB (hm := YC.m _ _); rfl; intro h3 o3 b3)
    exact hq _ exty
end
end Am
end Go.Proofs.YtfhlblclcdhbiaaGreatDoor

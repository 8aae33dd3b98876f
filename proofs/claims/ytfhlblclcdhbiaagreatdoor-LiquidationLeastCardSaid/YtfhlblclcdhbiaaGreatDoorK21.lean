/- The reference's check. -/
import Derived.Test.YtfhlblclcdhbiaaGreatDoorK20
namespace Go.Proofs.YtfhlblclcdhbiaaGreatDoor
open Go
set_option linter.unusedVariables false
set_option linter.unusedSimpArgs false
namespace Am
section
variable {B0 : Nat} {Q : Value → AH → Prop} {h : AH}
theorem k34 {l : List Vt} {vs : List Tri} {v w : Value} (hl : l.length ≤ 9223372036854775807) (hl2 : vs.length ≤ 9223372036854775807) (hv : VS h.ob l v) (hw : RS h.ob vs w) (hle : ∀ x ∈ l, x.Le 68719476736) (hle2 : ∀ x ∈ vs, x.Le 68719476736)
    (hq : ∀ h', Ext h h' → Q (.int .i64 (chk l vs)) h') : YC Tryz.prog B0 34 [v, w] Q h := by
  refine enterF mix Tryz.func34 ok34 rfl (tm := [(0, _), (1, _)]) (bx := []) rfl rfl fun hp => ?_
  unfold chk at hq
  by_cases h64 : l.length > 64
  · rw [if_pos (by omega)] at hq
    repeat' first | (with_reducible first | exact SetAt.z | apply SetAt.s | apply s_end | exact Kept.nil) | refine qq (hk := ?_) | ((with_reducible first | apply Kept.cons | apply q_blky); rfl) | ((with_reducible apply Kept.skip); rfl) | refine wq (hk := ?_) | (apply c_condP; rfl; exact bpx; all_goals intro hc) | ((first | apply s_gTP | apply s_gFP); rfl; exact bpx; all_goals intro hg) | (apply s_lalloc; rfl) | ((first | apply s_lbox | apply s_lstoreR); rfl; rfl; rfl) | (apply s_lstore; rfl; rfl; rfl; rfl; rfl) | (apply s_callB (hm := YC.m _ _); rfl; intro h3 o3 b3)
    exact hq _ exty
  rw [if_neg (by omega)] at hq
  by_cases hn : vs.length = l.length
  · rw [if_neg (by omega)] at hq
    repeat' first | (with_reducible first | exact SetAt.z | apply SetAt.s | apply s_end | exact Kept.nil) | refine qq (hk := ?_) | ((with_reducible first | apply Kept.cons | apply q_blky); rfl) | ((with_reducible apply Kept.skip); rfl) | refine wq (hk := ?_) | (apply c_condP; rfl; exact bpx; all_goals intro hc) | ((first | apply s_gTP | apply s_gFP); rfl; exact bpx; all_goals intro hg) | (apply s_lalloc; rfl) | ((first | apply s_lbox | apply s_lstoreR); rfl; rfl; rfl) | (apply s_lstore; rfl; rfl; rfl; rfl; rfl) | (apply s_callB (hm := YC.m _ _); rfl; intro h3 o3 b3)
    refine loopI (YC.m _ _) (fun n fr h' => ∃ (i : Nat), n = l.length - i ∧ Ext h h' ∧ i ≤ l.length ∧ (∀ k x t, k < i → l[k]? = some x → vs[k]? = some t → ¬ badV x ∧ ¬ badT t) ∧ fr = ⟨[(0, .v v), (1, .v w), (5, .v (.int .i64 i))], []⟩) l.length
      ⟨0, by omega, Ext.refl h, by omega, by omega, rfl⟩ ?_
    rintro n fr h' ⟨i, rfl, e, hi, hall, rfl⟩
    have hv' := hv.ext e
    have hw' := hw.ext e
    by_cases hlt : i < l.length
    · obtain ⟨x, hx⟩ := get_lt hlt
      obtain ⟨t, ht⟩ := get_lt (l := vs) (i := i) (by omega)
      have hiv : i < vs.length := by omega
      have hxm := List.mem_of_getElem? hx
      have htm := List.mem_of_getElem? ht
      obtain ⟨x1, x2⟩ := hle x hxm
      have t1 := hle2 t htm
      repeat' first | (with_reducible first | exact SetAt.z | apply SetAt.s | apply s_end | exact Kept.nil) | refine qq (hk := ?_) | ((with_reducible first | apply Kept.cons | apply q_blky); rfl) | ((with_reducible apply Kept.skip); rfl) | (apply s_q; rfl; (first | ((with_reducible apply q_iaTN); rfl; rfl; (with_reducible rfl); assumption; omega) | ((with_reducible apply q_ldAm); rfl; assumption; assumption))) | refine wq (hk := ?_) | (apply c_condP; rfl; exact bpx; all_goals intro hc) | ((first | apply s_gTP | apply s_gFP); rfl; exact bpx; all_goals intro hg) | (apply s_lalloc; rfl) | ((first | apply s_lbox | apply s_lstoreR); rfl; rfl; rfl) | (apply s_lstore; rfl; rfl; rfl; rfl; rfl) | (apply s_callB (hm := YC.m _ _); rfl; intro h3 o3 b3)
      refine k38' (t := x.am) x1 fun h1 e1 => ?_
      have hv1 := hv'.ext e1
      have hw1 := hw'.ext e1
      by_cases b1 : sgn x.am.q < 0
      · rw [if_pos (.inl ⟨x, hxm, .inl b1⟩)] at hq
        repeat' first | (with_reducible first | exact SetAt.z | apply SetAt.s | apply s_end | exact Kept.nil) | refine qq (hk := ?_) | ((with_reducible first | apply Kept.cons | apply q_blky); rfl) | ((with_reducible apply Kept.skip); rfl) | refine wq (hk := ?_) | (apply c_condP; rfl; exact bpx; all_goals intro hc) | ((first | apply s_gTP | apply s_gFP); rfl; exact bpx; all_goals intro hg) | (apply s_lalloc; rfl) | ((first | apply s_lbox | apply s_lstoreR); rfl; rfl; rfl) | (apply s_lstore; rfl; rfl; rfl; rfl; rfl) | (apply s_callB (hm := YC.m _ _); rfl; intro h3 o3 b3)
        exact hq _ exty
      repeat' first | (with_reducible first | exact SetAt.z | apply SetAt.s | apply s_end | exact Kept.nil) | refine qq (hk := ?_) | ((with_reducible first | apply Kept.cons | apply q_blky); rfl) | ((with_reducible apply Kept.skip); rfl) | (apply s_q; rfl; (first | ((with_reducible apply q_iaTN); rfl; rfl; (with_reducible rfl); assumption; omega) | ((with_reducible apply q_ldAsk); rfl; assumption; assumption))) | refine wq (hk := ?_) | (apply c_condP; rfl; exact bpx; all_goals intro hc) | ((first | apply s_gTP | apply s_gFP); rfl; exact bpx; all_goals intro hg) | (apply s_lalloc; rfl) | ((first | apply s_lbox | apply s_lstoreR); rfl; rfl; rfl) | (apply s_lstore; rfl; rfl; rfl; rfl; rfl) | (apply s_callB (hm := YC.m _ _); rfl; intro h3 o3 b3)
      refine k38' (t := x.ask) x2 fun h2 e2 => ?_
      have hv2 := hv1.ext e2
      have hw2 := hw1.ext e2
      by_cases b2 : sgn x.ask.q < 0
      · rw [if_pos (.inl ⟨x, hxm, .inr b2⟩)] at hq
        repeat' first | (with_reducible first | exact SetAt.z | apply SetAt.s | apply s_end | exact Kept.nil) | refine qq (hk := ?_) | ((with_reducible first | apply Kept.cons | apply q_blky); rfl) | ((with_reducible apply Kept.skip); rfl) | refine wq (hk := ?_) | (apply c_condP; rfl; exact bpx; all_goals intro hc) | ((first | apply s_gTP | apply s_gFP); rfl; exact bpx; all_goals intro hg) | (apply s_lalloc; rfl) | ((first | apply s_lbox | apply s_lstoreR); rfl; rfl; rfl) | (apply s_lstore; rfl; rfl; rfl; rfl; rfl) | (apply s_callB (hm := YC.m _ _); rfl; intro h3 o3 b3)
        exact hq _ exty
      repeat' first | (with_reducible first | exact SetAt.z | apply SetAt.s | apply s_end | exact Kept.nil) | refine qq (hk := ?_) | ((with_reducible first | apply Kept.cons | apply q_blky); rfl) | ((with_reducible apply Kept.skip); rfl) | (apply s_q; rfl; (first | ((with_reducible apply q_iaTN); rfl; rfl; (with_reducible rfl); assumption; omega) | ((with_reducible apply q_ldTri); rfl; assumption; assumption))) | refine wq (hk := ?_) | (apply c_condP; rfl; exact bpx; all_goals intro hc) | ((first | apply s_gTP | apply s_gFP); rfl; exact bpx; all_goals intro hg) | (apply s_lalloc; rfl) | ((first | apply s_lbox | apply s_lstoreR); rfl; rfl; rfl) | (apply s_lstore; rfl; rfl; rfl; rfl; rfl) | (apply s_callB (hm := YC.m _ _); rfl; intro h3 o3 b3)
      refine k38' (t := t) t1 fun h3 e3 => ?_
      by_cases b3 : sgn t.q < 0
      · rw [if_pos (.inr ⟨t, htm, b3⟩)] at hq
        repeat' first | (with_reducible first | exact SetAt.z | apply SetAt.s | apply s_end | exact Kept.nil) | refine qq (hk := ?_) | ((with_reducible first | apply Kept.cons | apply q_blky); rfl) | ((with_reducible apply Kept.skip); rfl) | refine wq (hk := ?_) | (apply c_condP; rfl; exact bpx; all_goals intro hc) | ((first | apply s_gTP | apply s_gFP); rfl; exact bpx; all_goals intro hg) | (apply s_lalloc; rfl) | ((first | apply s_lbox | apply s_lstoreR); rfl; rfl; rfl) | (apply s_lstore; rfl; rfl; rfl; rfl; rfl) | (apply s_callB (hm := YC.m _ _); rfl; intro h3 o3 b3)
        exact hq _ exty
      repeat' first | (with_reducible first | exact SetAt.z | apply SetAt.s | apply s_end | exact Kept.nil) | refine qq (hk := ?_) | ((with_reducible first | apply Kept.cons | apply q_blky); rfl) | ((with_reducible apply Kept.skip); rfl) | refine wq (hk := ?_) | (apply c_condP; rfl; exact bpx; all_goals intro hc) | ((first | apply s_gTP | apply s_gFP); rfl; exact bpx; all_goals intro hg) | (apply s_lalloc; rfl) | ((first | apply s_lbox | apply s_lstoreR); rfl; rfl; rfl) | (apply s_lstore; rfl; rfl; rfl; rfl; rfl) | (apply s_callB (hm := YC.m _ _); rfl; intro h3 o3 b3)
      refine q_seql (m := l.length - (i + 1)) (by omega) ⟨i + 1, rfl, exty, by omega, fun k y s hk hy hs => ?_, rfl⟩
      by_cases hki : k = i
      · subst hki; rw [hx] at hy; rw [ht] at hs; cases hy; cases hs; exact ⟨fun hh => hh.elim b1 b2, b3⟩
      · exact hall k y s (by omega) hy hs
    · have h7 : ¬ ((∃ x ∈ l, badV x) ∨ ∃ t ∈ vs, badT t) := by
        rintro (⟨x, hx, hb⟩ | ⟨t, ht, hb⟩)
        · obtain ⟨k, hk⟩ := List.getElem?_of_mem hx
          have hkl := (List.getElem?_eq_some_iff.mp hk).1
          obtain ⟨t, ht⟩ := get_lt (l := vs) (i := k) (by omega)
          exact (hall k x t (by omega) hk ht).1 hb
        · obtain ⟨k, hk⟩ := List.getElem?_of_mem ht
          have hkl := (List.getElem?_eq_some_iff.mp hk).1
          obtain ⟨x, hx⟩ := get_lt (l := l) (i := k) (by omega)
          exact (hall k x t (by omega) hx hk).2 hb
      rw [if_neg h7] at hq
      repeat' first | (with_reducible first | exact SetAt.z | apply SetAt.s | apply s_end | exact Kept.nil) | refine qq (hk := ?_) | ((with_reducible first | apply Kept.cons | apply q_blky); rfl) | ((with_reducible apply Kept.skip); rfl) | refine wq (hk := ?_) | (apply c_condP; rfl; exact bpx; all_goals intro hc) | ((first | apply s_gTP | apply s_gFP); rfl; exact bpx; all_goals intro hg) | (apply s_lalloc; rfl) | ((first | apply s_lbox | apply s_lstoreR); rfl; rfl; rfl) | (apply s_lstore; rfl; rfl; rfl; rfl; rfl) | (apply s_callB (hm := YC.m _ _); rfl; intro h3 o3 b3)
      exact hq _ exty
  · rw [if_pos (by omega)] at hq
    repeat' first | (with_reducible first | exact SetAt.z | apply SetAt.s | apply s_end | exact Kept.nil) | refine qq (hk := ?_) | ((with_reducible first | apply Kept.cons | apply q_blky); rfl) | ((with_reducible apply Kept.skip); rfl) | refine wq (hk := ?_) | (apply c_condP; rfl; exact bpx; all_goals intro hc) | ((first | apply s_gTP | apply s_gFP); rfl; exact bpx; all_goals intro hg) | (apply s_lalloc; rfl) | ((first | apply s_lbox | apply s_lstoreR); rfl; rfl; rfl) | (apply s_lstore; rfl; rfl; rfl; rfl; rfl) | (apply s_callB (hm := YC.m _ _); rfl; intro h3 o3 b3)
    exact hq _ exty
end
end Am
end Go.Proofs.YtfhlblclcdhbiaaGreatDoor

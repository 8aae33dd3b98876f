/- The law of the floor. -/
import Derived.Test.YtfhlblclcdhbiaaGreatDoorK25
namespace Go.Proofs.YtfhlblclcdhbiaaGreatDoor
open Go
set_option linter.unusedVariables false
set_option linter.unusedSimpArgs false
namespace Am
section
variable {B0 : Nat} {Q : Value → AH → Prop} {h : AH}
theorem voters_len (U : List Qd) : ((U.take 7).map voterT).length ≤ 7 := by rw [List.length_map, List.length_take]; omega
theorem voters_le {U : List Qd} (hU : ∀ x ∈ U, x.Ok) : ∀ x ∈ (U.take 7).map voterT, x.Le 24 := by
  intro x hx
  obtain ⟨y, hy, rfl⟩ := List.mem_map.mp hx
  exact le_voter (hU y (List.mem_of_mem_take hy))
theorem vals_len (U : List Int) (N : Nat) : (valsT U N).length = N := by
  unfold valsT
  rw [List.length_append, List.length_map, List.length_take, List.length_replicate]
  omega
theorem k3 {U : List Qd} {W : List Int} {l : List Vt} {vs : List Tri} {v0 v1 v2 v3 : Value} (hU : ∀ x ∈ U, x.Ok) (hUl : U.length ≤ 9223372036854775807) (hW : ∀ x ∈ W, 0 ≤ x ∧ x < 65536) (hWl : W.length ≤ 9223372036854775807) (hl : l.length ≤ 9223372036854775807) (hl2 : vs.length ≤ 9223372036854775807)
    (g0 : QS h.ob U v0) (g1 : US .u16 h.ob W v1) (g2 : VS h.ob l v2) (g3 : RS h.ob vs v3) (hq : ∀ h', Ext h h' → Q (.bool true) h') : YC Tryz.prog B0 3 [v0, v1, v2, v3] Q h := by
  refine enterF mix Tryz.func3 ok3 rfl (tm := [(0, _), (1, _), (2, _), (3, _)]) (bx := [_, _, _, _]) rfl rfl fun hp => ?_
  repeat' first | (with_reducible first | exact SetAt.z | apply SetAt.s | apply s_end | exact Kept.nil) | refine qq (hk := ?_) | ((with_reducible first | apply Kept.cons | apply q_blky); rfl) | ((with_reducible apply Kept.skip); rfl) | refine wq (hk := ?_) | (apply c_condP; rfl; exact bpx; all_goals intro hc) | ((first | apply s_gTP | apply s_gFP); rfl; exact bpx; all_goals intro hg) | (apply s_lalloc; rfl) | ((first | apply s_lbox | apply s_lstoreR); rfl; rfl; rfl) | (apply s_lstore; rfl; rfl; rfl; rfl; rfl) | (apply s_callB (hm := YC.m _ _); rfl; intro h3 o3 b3) | ((with_reducible refine YCi (f := 8) ?_); (refine k8 hl hl2 g2 g3 fun b hb => ?_))
  · refine k9 fun h1 e1 => ?_
    repeat' first | (with_reducible first | exact SetAt.z | apply SetAt.s | apply s_end | exact Kept.nil) | refine qq (hk := ?_) | ((with_reducible first | apply Kept.cons | apply q_blky); rfl) | ((with_reducible apply Kept.skip); rfl) | refine wq (hk := ?_) | (apply c_condP; rfl; exact bpx; all_goals intro hc) | ((first | apply s_gTP | apply s_gFP); rfl; exact bpx; all_goals intro hg) | (apply s_lalloc; rfl) | ((first | apply s_lbox | apply s_lstoreR); rfl; rfl; rfl) | (apply s_lstore; rfl; rfl; rfl; rfl; rfl) | (apply s_callB (hm := YC.m _ _); rfl; intro h3 o3 b3)
    exact hq _ exty
  · have hsm : small l vs := hb (by simpa using hc)
    obtain ⟨s1, s2, s3, s4⟩ := hsm
    refine k10 hU hUl g0 fun v4 h1 e1 hv1 => ?_
    have l4 := voters_len U
    have le4 := voters_le hU
    generalize (U.take 7).map voterT = V at hv1 l4 le4
    have g1' := g1.ext e1
    repeat' first | (with_reducible first | exact SetAt.z | apply SetAt.s | apply s_end | exact Kept.nil) | refine qq (hk := ?_) | ((with_reducible first | apply Kept.cons | apply q_blky); rfl) | ((with_reducible apply Kept.skip); rfl) | refine wq (hk := ?_) | (apply c_condP; rfl; exact bpx; all_goals intro hc) | ((first | apply s_gTP | apply s_gFP); rfl; exact bpx; all_goals intro hg) | (apply s_lalloc; rfl) | ((first | apply s_lbox | apply s_lstoreR); rfl; rfl; rfl) | (apply s_lstore; rfl; rfl; rfl; rfl; rfl) | (apply s_callB (hm := YC.m _ _); rfl; intro h3 o3 b3)
    refine k12 hW hWl (N := V.length) (by omega) g1' fun v5 h2 e2 hv5 => ?_
    have hv4 := hv1.ext e2
    have l5 := vals_len W V.length
    have le5 := le_vals (N := V.length) hW
    repeat' first | (with_reducible first | exact SetAt.z | apply SetAt.s | apply s_end | exact Kept.nil) | refine qq (hk := ?_) | ((with_reducible first | apply Kept.cons | apply q_blky); rfl) | ((with_reducible apply Kept.skip); rfl) | refine wq (hk := ?_) | (apply c_condP; rfl; exact bpx; all_goals intro hc) | ((first | apply s_gTP | apply s_gFP); rfl; exact bpx; all_goals intro hg) | (apply s_lalloc; rfl) | ((first | apply s_lbox | apply s_lstoreR); rfl; rfl; rfl) | (apply s_lstore; rfl; rfl; rfl; rfl; rfl) | (apply s_callB (hm := YC.m _ _); rfl; intro h3 o3 b3)
    refine k11 (by omega) (by omega) hv4 hv5 le4 le5 fun q1 h3 e3 hq1 ho1 => ?_
    have hv4 := hv4.ext e3
    have g1' := (g1'.ext e2).ext e3
    repeat' first | (with_reducible first | exact SetAt.z | apply SetAt.s | apply s_end | exact Kept.nil) | refine qq (hk := ?_) | ((with_reducible first | apply Kept.cons | apply q_blky); rfl) | ((with_reducible apply Kept.skip); rfl) | refine wq (hk := ?_) | (apply c_condP; rfl; exact bpx; all_goals intro hc) | ((first | apply s_gTP | apply s_gFP); rfl; exact bpx; all_goals intro hg) | (apply s_lalloc; rfl) | ((first | apply s_lbox | apply s_lstoreR); rfl; rfl; rfl) | (apply s_lstore; rfl; rfl; rfl; rfl; rfl) | (apply s_callB (hm := YC.m _ _); rfl; intro h3 o3 b3)
    refine k12 hW hWl (N := V.length) (by omega) g1' fun v6 h4 e4 hv6 => ?_
    have hv4 := hv4.ext e4
    repeat' first | (with_reducible first | exact SetAt.z | apply SetAt.s | apply s_end | exact Kept.nil) | refine qq (hk := ?_) | ((with_reducible first | apply Kept.cons | apply q_blky); rfl) | ((with_reducible apply Kept.skip); rfl) | refine wq (hk := ?_) | (apply c_condP; rfl; exact bpx; all_goals intro hc) | ((first | apply s_gTP | apply s_gFP); rfl; exact bpx; all_goals intro hg) | (apply s_lalloc; rfl) | ((first | apply s_lbox | apply s_lstoreR); rfl; rfl; rfl) | (apply s_lstore; rfl; rfl; rfl; rfl; rfl) | (apply s_callB (hm := YC.m _ _); rfl; intro h3 o3 b3)
    refine k13 (by omega) (by omega) hv4 hv6 le4 le5 fun q2 h5 e5 hq2 ho2 => ?_
    have eq12 : q2 = q1 := by rw [ho2, ho1, hq1, hq2]
    have f1 : Ext h h5 := e1.trans (e2.trans (e3.trans (e4.trans e5)))
    have g2' := g2.ext f1
    have g3' := g3.ext f1
    repeat' first | (with_reducible first | exact SetAt.z | apply SetAt.s | apply s_end | exact Kept.nil) | refine qq (hk := ?_) | ((with_reducible first | apply Kept.cons | apply q_blky); rfl) | ((with_reducible apply Kept.skip); rfl) | refine wq (hk := ?_) | (apply c_condP; rfl; exact bpx; all_goals intro hc) | ((first | apply s_gTP | apply s_gFP); rfl; exact bpx; all_goals intro hg) | (apply s_lalloc; rfl) | ((first | apply s_lbox | apply s_lstoreR); rfl; rfl; rfl) | (apply s_lstore; rfl; rfl; rfl; rfl; rfl) | (apply s_callB (hm := YC.m _ _); rfl; intro h3 o3 b3)
    refine k11 (by omega) (by omega) g2' g3' s2 s4 fun q3 h6 e6 hq3 ho3 => ?_
    have g2' := g2'.ext e6
    have g3' := g3'.ext e6
    repeat' first | (with_reducible first | exact SetAt.z | apply SetAt.s | apply s_end | exact Kept.nil) | refine qq (hk := ?_) | ((with_reducible first | apply Kept.cons | apply q_blky); rfl) | ((with_reducible apply Kept.skip); rfl) | refine wq (hk := ?_) | (apply c_condP; rfl; exact bpx; all_goals intro hc) | ((first | apply s_gTP | apply s_gFP); rfl; exact bpx; all_goals intro hg) | (apply s_lalloc; rfl) | ((first | apply s_lbox | apply s_lstoreR); rfl; rfl; rfl) | (apply s_lstore; rfl; rfl; rfl; rfl; rfl) | (apply s_callB (hm := YC.m _ _); rfl; intro h3 o3 b3)
    refine k13 (by omega) (by omega) g2' g3' s2 s4 fun q4 h7 e7 hq4 ho4 => ?_
    have eq34 : q4 = q3 := by rw [ho4, ho3, hq3, hq4]
    subst eq12 eq34
    repeat' first | (with_reducible first | exact SetAt.z | apply SetAt.s | apply s_end | exact Kept.nil) | refine qq (hk := ?_) | ((with_reducible first | apply Kept.cons | apply q_blky); rfl) | ((with_reducible apply Kept.skip); rfl) | refine wq (hk := ?_) | (apply c_condP; rfl; exact bpx; all_goals intro hc) | ((first | apply s_gTP | apply s_gFP); rfl; exact bpx; all_goals intro hg) | (apply s_lalloc; rfl) | ((first | apply s_lbox | apply s_lstoreR); rfl; rfl; rfl) | (apply s_lstore; rfl; rfl; rfl; rfl; rfl) | (apply s_callB (hm := YC.m _ _); rfl; intro h3 o3 b3)
    refine k9 fun h8 e8 => ?_
    repeat' first | (with_reducible first | exact SetAt.z | apply SetAt.s | apply s_end | exact Kept.nil) | refine qq (hk := ?_) | ((with_reducible first | apply Kept.cons | apply q_blky); rfl) | ((with_reducible apply Kept.skip); rfl) | (apply s_q; rfl; (first | ((with_reducible apply q_eqsT (s := q2)); rfl; rfl) | ((with_reducible apply q_eqsT (s := q4)); rfl; rfl))) | refine wq (hk := ?_) | (apply c_condP; rfl; exact bpx; all_goals intro hc) | ((first | apply s_gTP | apply s_gFP); rfl; exact bpx; all_goals intro hg) | (apply s_lalloc; rfl) | ((first | apply s_lbox | apply s_lstoreR); rfl; rfl; rfl) | (apply s_lstore; rfl; rfl; rfl; rfl; rfl) | (apply s_callB (hm := YC.m _ _); rfl; intro h3 o3 b3)
    rw [beq_self_eq_true]
    exact hq _ (f1.trans (e6.trans (e7.trans e8)))
end
end Am
end Go.Proofs.YtfhlblclcdhbiaaGreatDoor

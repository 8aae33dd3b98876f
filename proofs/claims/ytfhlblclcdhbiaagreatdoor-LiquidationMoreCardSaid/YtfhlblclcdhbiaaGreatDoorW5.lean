/- The law on who is worse off. -/
import Derived.Test.YtfhlblclcdhbiaaGreatDoorW4
namespace Go.Proofs.YtfhlblclcdhbiaaGreatDoor
open Go
set_option linter.unusedVariables false
set_option linter.unusedSimpArgs false
namespace Am
section
variable {B0 : Nat} {Q : Value → AH → Prop} {h : AH}
theorem wres_len {l : List Vt} {vs : List Tri} {r : Tri} : (wres l vs r).length ≤ 64 := by
  unfold wres
  split
  · rename_i hh
    have := (chk_len hh.1).1
    have := wlist_len (zs := l.zip vs) (r := r) (i := l.length)
    omega
  · simp
theorem q_remB {x y : X} {fr : Fr} {a b : Int} (hx : vl fr x = some (.int .u8 a)) (hy : vl fr y = some (.int .u8 b)) (ha : 0 ≤ a) (hb : 0 < b) : qO (.bin .rem x y) fr h = some (.v (.int .u8 (a % b))) := by
  have h1 : a.tmod b = a % b := Int.tmod_eq_emod_of_nonneg ha
  simp [qO, hx, hy, binV, h1]
  rw [if_neg (by omega)]
theorem k4 {U : List Qd} {W : List Int} {l : List Vt} {vs : List Tri} {n : Int} {r : Tri} {v0 v1 v2 v3 : Value} (hU : ∀ x ∈ U, x.Ok) (hUl : U.length ≤ 9223372036854775807) (hW : ∀ x ∈ W, 0 ≤ x ∧ x < 65536) (hWl : W.length ≤ 9223372036854775807) (hn : 0 ≤ n ∧ n < 256) (hl : l.length ≤ 9223372036854775807) (hl2 : vs.length ≤ 9223372036854775807)
    (g0 : QS h.ob U v0) (g1 : US .u16 h.ob W v1) (g2 : VS h.ob l v2) (g3 : RS h.ob vs v3) (hq : ∀ h', Ext h h' → Q (.bool true) h') : YC Tryz.prog B0 4 [v0, v1, .int .u8 n, v2, v3, r.v] Q h := by
  refine enterF mix Tryz.func4 ok4 rfl (tm := [(0, _), (1, _), (2, _), (3, _), (4, _), (5, _)]) (bx := [_]) rfl rfl fun hp => ?_
  repeat' first | (with_reducible first | exact SetAt.z | apply SetAt.s | apply s_end | exact Kept.nil) | refine qq (hk := ?_) | ((with_reducible first | apply Kept.cons | apply q_blky); rfl) | ((with_reducible apply Kept.skip); rfl) | refine wq (hk := ?_) | (apply c_condP; rfl; exact bpx; all_goals intro hc) | ((first | apply s_gTP | apply s_gFP); rfl; exact bpx; all_goals intro hg) | (apply s_lalloc; rfl) | ((first | apply s_lbox | apply s_lstoreR); rfl; rfl; rfl) | (apply s_lstore; rfl; rfl; rfl; rfl; rfl) | (apply s_callB (hm := YC.m _ _); rfl; intro h3 o3 b3)
  refine k8 hl hl2 g2 g3 fun b hb => ?_
  cases b with
  | false =>
    repeat' first | (with_reducible first | exact SetAt.z | apply SetAt.s | apply s_end | exact Kept.nil) | refine qq (hk := ?_) | ((with_reducible first | apply Kept.cons | apply q_blky); rfl) | ((with_reducible apply Kept.skip); rfl) | refine wq (hk := ?_) | (apply c_condP; rfl; exact bpx; all_goals intro hc) | ((first | apply s_gTP | apply s_gFP); rfl; exact bpx; all_goals intro hg) | (apply s_lalloc; rfl) | ((first | apply s_lbox | apply s_lstoreR); rfl; rfl; rfl) | (apply s_lstore; rfl; rfl; rfl; rfl; rfl) | (apply s_callB (hm := YC.m _ _); rfl; intro h3 o3 b3) | ((with_reducible refine YCi (f := 9) ?_); (refine k9 fun h1 e1 => ?_)) | ((with_reducible refine YCi (f := 14) ?_); (refine k14' (t := r) ?_))
    all_goals first | exact hq _ exty | exact absurd rfl hg
  | true =>
    obtain ⟨s1, s2, s3, s4⟩ := hb rfl
    have ht : ¬ (!true) = true := by simp
    by_cases hr : r.Le 24
    · have hnn : ¬ ¬ r.Le 24 := fun hh => hh hr
      repeat' first | (with_reducible first | exact SetAt.z | apply SetAt.s | apply s_end | exact Kept.nil) | refine qq (hk := ?_) | ((with_reducible first | apply Kept.cons | apply q_blky); rfl) | ((with_reducible apply Kept.skip); rfl) | refine wq (hk := ?_) | (apply c_condP; rfl; exact bpx; all_goals intro hc) | ((first | apply s_gTP | apply s_gFP); rfl; exact bpx; all_goals intro hg) | (apply s_lalloc; rfl) | ((first | apply s_lbox | apply s_lstoreR); rfl; rfl; rfl) | (apply s_lstore; rfl; rfl; rfl; rfl; rfl) | (apply s_callB (hm := YC.m _ _); rfl; intro h3 o3 b3) | ((with_reducible refine YCi (f := 14) ?_); (refine k14' (t := r) ?_))
      refine k10 hU hUl g0 fun v4 h1 e1 hv1 => ?_
      have l4 := voters_len U
      have le4 := voters_le hU
      generalize (U.take 7).map voterT = V at hv1 l4 le4
      have g1' := g1.ext e1
      repeat' first | (with_reducible first | exact SetAt.z | apply SetAt.s | apply s_end | exact Kept.nil) | refine qq (hk := ?_) | ((with_reducible first | apply Kept.cons | apply q_blky); rfl) | ((with_reducible apply Kept.skip); rfl) | refine wq (hk := ?_) | (apply c_condP; rfl; exact bpx; all_goals intro hc) | ((first | apply s_gTP | apply s_gFP); rfl; exact bpx; all_goals intro hg) | (apply s_lalloc; rfl) | ((first | apply s_lbox | apply s_lstoreR); rfl; rfl; rfl) | (apply s_lstore; rfl; rfl; rfl; rfl; rfl) | (apply s_callB (hm := YC.m _ _); rfl; intro h3 o3 b3)
      refine k12 hW hWl (N := V.length) (by omega) g1' fun v5 h2 e2 hv5 => ?_
      have hv4 := hv1.ext e2
      have l5 := vals_len W V.length
      have le5 := le_vals (N := V.length) hW
      generalize hY : valsT W V.length = Y at hv5 l5 le5
      repeat' first | (with_reducible first | exact SetAt.z | apply SetAt.s | apply s_end | exact Kept.nil) | refine qq (hk := ?_) | ((with_reducible first | apply Kept.cons | apply q_blky); rfl) | ((with_reducible apply Kept.skip); rfl) | (apply s_q; rfl; (first | ((with_reducible apply q_remB); rfl; rfl; omega; omega))) | refine wq (hk := ?_) | (apply c_condP; rfl; exact bpx; all_goals intro hc) | ((first | apply s_gTP | apply s_gFP); rfl; exact bpx; all_goals intro hg) | (apply s_lalloc; rfl) | ((first | apply s_lbox | apply s_lstoreR); rfl; rfl; rfl) | (apply s_lstore; rfl; rfl; rfl; rfl; rfl) | (apply s_callB (hm := YC.m _ _); rfl; intro h3 o3 b3)
      have hR : (triT (fr (n % 14) 12)).Le 24 := by
        have e : (256 : Nat) ^ 8 = 18446744073709551616 := by decide
        exact Tri.Le.mono (triT_le (bd_fr (by rw [e]; omega) (by rw [e]; omega) (by omega))) (by omega)
      refine k16 (a := n % 14) (b := 12) (by omega) (by omega) (by omega) fun h3 e3 => ?_
      have hv4 := hv4.ext e3
      have hv5 := hv5.ext e3
      have g1' := (g1'.ext e2).ext e3
      repeat' first | (with_reducible first | exact SetAt.z | apply SetAt.s | apply s_end | exact Kept.nil) | refine qq (hk := ?_) | ((with_reducible first | apply Kept.cons | apply q_blky); rfl) | ((with_reducible apply Kept.skip); rfl) | refine wq (hk := ?_) | (apply c_condP; rfl; exact bpx; all_goals intro hc) | ((first | apply s_gTP | apply s_gFP); rfl; exact bpx; all_goals intro hg) | (apply s_lalloc; rfl) | ((first | apply s_lbox | apply s_lstoreR); rfl; rfl; rfl) | (apply s_lstore; rfl; rfl; rfl; rfl; rfl) | (apply s_callB (hm := YC.m _ _); rfl; intro h3 o3 b3)
      refine k15 (r := triT (fr (n % 14) 12)) (by omega) (by omega) hv4 hv5 le4 le5 hR fun q1 h4 e4 i1 => ?_
      have hv4 := hv4.ext e4
      have g1' := g1'.ext e4
      repeat' first | (with_reducible first | exact SetAt.z | apply SetAt.s | apply s_end | exact Kept.nil) | refine qq (hk := ?_) | ((with_reducible first | apply Kept.cons | apply q_blky); rfl) | ((with_reducible apply Kept.skip); rfl) | refine wq (hk := ?_) | (apply c_condP; rfl; exact bpx; all_goals intro hc) | ((first | apply s_gTP | apply s_gFP); rfl; exact bpx; all_goals intro hg) | (apply s_lalloc; rfl) | ((first | apply s_lbox | apply s_lstoreR); rfl; rfl; rfl) | (apply s_lstore; rfl; rfl; rfl; rfl; rfl) | (apply s_callB (hm := YC.m _ _); rfl; intro h3 o3 b3)
      refine k12 hW hWl (N := V.length) (by omega) g1' fun v6 h5 e5 hv6 => ?_
      have hv4 := hv4.ext e5
      have i1 := i1.ext e5
      rw [hY] at hv6
      repeat' first | (with_reducible first | exact SetAt.z | apply SetAt.s | apply s_end | exact Kept.nil) | refine qq (hk := ?_) | ((with_reducible first | apply Kept.cons | apply q_blky); rfl) | ((with_reducible apply Kept.skip); rfl) | (apply s_q; rfl; (first | ((with_reducible apply q_remB); rfl; rfl; omega; omega))) | refine wq (hk := ?_) | (apply c_condP; rfl; exact bpx; all_goals intro hc) | ((first | apply s_gTP | apply s_gFP); rfl; exact bpx; all_goals intro hg) | (apply s_lalloc; rfl) | ((first | apply s_lbox | apply s_lstoreR); rfl; rfl; rfl) | (apply s_lstore; rfl; rfl; rfl; rfl; rfl) | (apply s_callB (hm := YC.m _ _); rfl; intro h3 o3 b3)
      refine k16 (a := n % 14) (b := 12) (by omega) (by omega) (by omega) fun h6 e6 => ?_
      have hv4 := hv4.ext e6
      have hv6 := hv6.ext e6
      have i1 := i1.ext e6
      repeat' first | (with_reducible first | exact SetAt.z | apply SetAt.s | apply s_end | exact Kept.nil) | refine qq (hk := ?_) | ((with_reducible first | apply Kept.cons | apply q_blky); rfl) | ((with_reducible apply Kept.skip); rfl) | refine wq (hk := ?_) | (apply c_condP; rfl; exact bpx; all_goals intro hc) | ((first | apply s_gTP | apply s_gFP); rfl; exact bpx; all_goals intro hg) | (apply s_lalloc; rfl) | ((first | apply s_lbox | apply s_lstoreR); rfl; rfl; rfl) | (apply s_lstore; rfl; rfl; rfl; rfl; rfl) | (apply s_callB (hm := YC.m _ _); rfl; intro h3 o3 b3)
      refine k17 (r := triT (fr (n % 14) 12)) (by omega) (by omega) hv4 hv6 le4 le5 hR fun q2 h7 e7 i2 => ?_
      have i1 := i1.ext e7
      have f7 : Ext h h7 := e1.trans (e2.trans (e3.trans (e4.trans (e5.trans (e6.trans e7)))))
      have g2' := g2.ext f7
      have g3' := g3.ext f7
      repeat' first | (with_reducible first | exact SetAt.z | apply SetAt.s | apply s_end | exact Kept.nil) | refine qq (hk := ?_) | ((with_reducible first | apply Kept.cons | apply q_blky); rfl) | ((with_reducible apply Kept.skip); rfl) | refine wq (hk := ?_) | (apply c_condP; rfl; exact bpx; all_goals intro hc) | ((first | apply s_gTP | apply s_gFP); rfl; exact bpx; all_goals intro hg) | (apply s_lalloc; rfl) | ((first | apply s_lbox | apply s_lstoreR); rfl; rfl; rfl) | (apply s_lstore; rfl; rfl; rfl; rfl; rfl) | (apply s_callB (hm := YC.m _ _); rfl; intro h3 o3 b3)
      refine k15 (r := r) (by omega) (by omega) g2' g3' s2 s4 hr fun q3 h8 e8 i3 => ?_
      have i1 := i1.ext e8
      have i2 := i2.ext e8
      have g2' := g2'.ext e8
      have g3' := g3'.ext e8
      repeat' first | (with_reducible first | exact SetAt.z | apply SetAt.s | apply s_end | exact Kept.nil) | refine qq (hk := ?_) | ((with_reducible first | apply Kept.cons | apply q_blky); rfl) | ((with_reducible apply Kept.skip); rfl) | refine wq (hk := ?_) | (apply c_condP; rfl; exact bpx; all_goals intro hc) | ((first | apply s_gTP | apply s_gFP); rfl; exact bpx; all_goals intro hg) | (apply s_lalloc; rfl) | ((first | apply s_lbox | apply s_lstoreR); rfl; rfl; rfl) | (apply s_lstore; rfl; rfl; rfl; rfl; rfl) | (apply s_callB (hm := YC.m _ _); rfl; intro h3 o3 b3)
      refine k17 (r := r) (by omega) (by omega) g2' g3' s2 s4 hr fun q4 h9 e9 i4 => ?_
      have i1 := i1.ext e9
      have i2 := i2.ext e9
      have i3 := i3.ext e9
      repeat' first | (with_reducible first | exact SetAt.z | apply SetAt.s | apply s_end | exact Kept.nil) | refine qq (hk := ?_) | ((with_reducible first | apply Kept.cons | apply q_blky); rfl) | ((with_reducible apply Kept.skip); rfl) | refine wq (hk := ?_) | (apply c_condP; rfl; exact bpx; all_goals intro hc) | ((first | apply s_gTP | apply s_gFP); rfl; exact bpx; all_goals intro hg) | (apply s_lalloc; rfl) | ((first | apply s_lbox | apply s_lstoreR); rfl; rfl; rfl) | (apply s_lstore; rfl; rfl; rfl; rfl; rfl) | (apply s_callB (hm := YC.m _ _); rfl; intro h3 o3 b3)
      refine k9 fun h10 e10 => ?_
      have i1 := i1.ext e10
      have i2 := i2.ext e10
      have i3 := i3.ext e10
      have i4 := i4.ext e10
      have w1 := wres_len (l := V) (vs := Y) (r := triT (fr (n % 14) 12))
      have w2 := wres_len (l := l) (vs := vs) (r := r)
      repeat' first | (with_reducible first | exact SetAt.z | apply SetAt.s | apply s_end | exact Kept.nil) | refine qq (hk := ?_) | ((with_reducible first | apply Kept.cons | apply q_blky); rfl) | ((with_reducible apply Kept.skip); rfl) | refine wq (hk := ?_) | (apply c_condP; rfl; exact bpx; all_goals intro hc) | ((first | apply s_gTP | apply s_gFP); rfl; exact bpx; all_goals intro hg) | (apply s_lalloc; rfl) | ((first | apply s_lbox | apply s_lstoreR); rfl; rfl; rfl) | (apply s_lstore; rfl; rfl; rfl; rfl; rfl) | (apply s_callB (hm := YC.m _ _); rfl; intro h3 o3 b3)
      refine k18 (by omega) i1 i2 fun h11 e11 => ?_
      have i3 := i3.ext e11
      have i4 := i4.ext e11
      repeat' first | (with_reducible first | exact SetAt.z | apply SetAt.s | apply s_end | exact Kept.nil) | refine qq (hk := ?_) | ((with_reducible first | apply Kept.cons | apply q_blky); rfl) | ((with_reducible apply Kept.skip); rfl) | refine wq (hk := ?_) | (apply c_condP; rfl; exact bpx; all_goals intro hc) | ((first | apply s_gTP | apply s_gFP); rfl; exact bpx; all_goals intro hg) | (apply s_lalloc; rfl) | ((first | apply s_lbox | apply s_lstoreR); rfl; rfl; rfl) | (apply s_lstore; rfl; rfl; rfl; rfl; rfl) | (apply s_callB (hm := YC.m _ _); rfl; intro h3 o3 b3)
      refine k18 (by omega) i3 i4 fun h12 e12 => ?_
      repeat' first | (with_reducible first | exact SetAt.z | apply SetAt.s | apply s_end | exact Kept.nil) | refine qq (hk := ?_) | ((with_reducible first | apply Kept.cons | apply q_blky); rfl) | ((with_reducible apply Kept.skip); rfl) | refine wq (hk := ?_) | (apply c_condP; rfl; exact bpx; all_goals intro hc) | ((first | apply s_gTP | apply s_gFP); rfl; exact bpx; all_goals intro hg) | (apply s_lalloc; rfl) | ((first | apply s_lbox | apply s_lstoreR); rfl; rfl; rfl) | (apply s_lstore; rfl; rfl; rfl; rfl; rfl) | (apply s_callB (hm := YC.m _ _); rfl; intro h3 o3 b3)
      exact hq _ (f7.trans (e8.trans (e9.trans (e10.trans (e11.trans e12)))))
    · repeat' first | (with_reducible first | exact SetAt.z | apply SetAt.s | apply s_end | exact Kept.nil) | refine qq (hk := ?_) | ((with_reducible first | apply Kept.cons | apply q_blky); rfl) | ((with_reducible apply Kept.skip); rfl) | refine wq (hk := ?_) | (apply c_condP; rfl; exact bpx; all_goals intro hc) | ((first | apply s_gTP | apply s_gFP); rfl; exact bpx; all_goals intro hg) | (apply s_lalloc; rfl) | ((first | apply s_lbox | apply s_lstoreR); rfl; rfl; rfl) | (apply s_lstore; rfl; rfl; rfl; rfl; rfl) | (apply s_callB (hm := YC.m _ _); rfl; intro h3 o3 b3) | ((with_reducible refine YCi (f := 9) ?_); (refine k9 fun h1 e1 => ?_)) | ((with_reducible refine YCi (f := 14) ?_); (refine k14' (t := r) ?_))
      all_goals first | exact hq _ exty | exact absurd hr hc
end
end Am
end Go.Proofs.YtfhlblclcdhbiaaGreatDoor

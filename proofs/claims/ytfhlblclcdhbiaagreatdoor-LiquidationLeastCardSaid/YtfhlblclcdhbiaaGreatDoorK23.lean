/- The floor. -/
import Derived.Test.YtfhlblclcdhbiaaGreatDoorK22
namespace Go.Proofs.YtfhlblclcdhbiaaGreatDoor
open Go
set_option linter.unusedVariables false
set_option linter.unusedSimpArgs false
namespace Am
theorem Bd.int {K : Nat} {n : Int} (h0 : 0 < K) (hn : n.natAbs < 256 ^ K) : Bd K (n : Rat) := by
  rw [← int_rq]
  refine Bd.rq (by omega) hn ?_
  exact Nat.one_lt_pow (by omega) (by decide)
theorem int_one : ((1 : Int) : Rat) = 1 := rfl
section
variable {B0 : Nat} {Q : Value → AH → Prop} {h : AH}
noncomputable def floorR (l : List Vt) (vs : List Tri) : Rat := if chk l vs = 0 then (if 1 < floorq (l.zip vs) then 1 else floorq (l.zip vs)) else 0
theorem floorq_snoc {l : List (Vt × Tri)} {i : Nat} {x : Vt} {t : Tri} (h : l[i]? = some (x, t)) : floorq (l.take (i + 1)) = maxq (floorq (l.take i)) (leastq x t) := by
  rw [take_snoc h, floorq, List.foldl_append]
  rfl
theorem chk_len {l : List Vt} {vs : List Tri} (h : chk l vs = 0) : l.length ≤ 64 ∧ vs.length = l.length ∧ (∀ x ∈ l, ¬ badV x) ∧ ∀ t ∈ vs, ¬ badT t := by
  unfold chk at h
  split at h
  · cases h
  · split at h
    · cases h
    · split at h
      · cases h
      · rename_i h1 h2 h3
        exact ⟨by omega, by omega, fun x hx hb => h3 (.inl ⟨x, hx, hb⟩), fun x hx hb => h3 (.inr ⟨x, hx, hb⟩)⟩
theorem k11 {l : List Vt} {vs : List Tri} {v w : Value} (hl : l.length ≤ 9223372036854775807) (hl2 : vs.length ≤ 9223372036854775807) (hv : VS h.ob l v) (hw : RS h.ob vs w) (hle : ∀ x ∈ l, x.Le 24) (hle2 : ∀ x ∈ vs, x.Le 24)
    (hq : ∀ (s : Tri) h', Ext h h' → s.q = floorR l vs → s = triT s.q → Q (.tuple #[s.v, .int .i64 (chk l vs)]) h') : YC Tryz.prog B0 11 [v, w] Q h := by
  refine enterF mix Tryz.func11 ok11 rfl (tm := [(0, _), (1, _)]) (bx := [_, _, _]) rfl rfl fun hp => ?_
  repeat' first | (with_reducible first | exact SetAt.z | apply SetAt.s | apply s_end | exact Kept.nil) | refine qq (hk := ?_) | ((with_reducible first | apply Kept.cons | apply q_blky); rfl) | ((with_reducible apply Kept.skip); rfl) | refine wq (hk := ?_) | (apply c_condP; rfl; exact bpx; all_goals intro hc) | ((first | apply s_gTP | apply s_gFP); rfl; exact bpx; all_goals intro hg) | (apply s_lalloc; rfl) | ((first | apply s_lbox | apply s_lstoreR); rfl; rfl; rfl) | (apply s_lstore; rfl; rfl; rfl; rfl; rfl) | (apply s_callB (hm := YC.m _ _); rfl; intro h3 o3 b3)
  refine k28 hl hl2 hv hw (fun x hx => ⟨(hle x hx).1.mono (by omega), (hle x hx).2.mono (by omega)⟩) (fun x hx => (hle2 x hx).mono (by omega)) fun h1 e1 => ?_
  have hv1 := hv.ext e1
  have hw1 := hw.ext e1
  unfold floorR at hq
  by_cases hc0 : chk l vs = 0
  · obtain ⟨c1, c2, c3, c4⟩ := chk_len hc0
    rw [if_pos hc0] at hq
    repeat' first | (with_reducible first | exact SetAt.z | apply SetAt.s | apply s_end | exact Kept.nil) | refine qq (hk := ?_) | ((with_reducible first | apply Kept.cons | apply q_blky); rfl) | ((with_reducible apply Kept.skip); rfl) | refine wq (hk := ?_) | (apply c_condP; rfl; exact bpx; all_goals intro hc) | ((first | apply s_gTP | apply s_gFP); rfl; exact bpx; all_goals intro hg) | (apply s_lalloc; rfl) | ((first | apply s_lbox | apply s_lstoreR); rfl; rfl; rfl) | (apply s_lstore; rfl; rfl; rfl; rfl; rfl) | (apply s_callB (hm := YC.m _ _); rfl; intro h3 o3 b3)
    refine loopI (YC.m _ _) (fun n fr h' => ∃ (i : Nat) (s : Tri) (b0 b2 : Nat × List Value), n = l.length - i ∧ Ext h h' ∧ i ≤ l.length ∧ s.q = floorq ((l.zip vs).take i) ∧ s.Le 48 ∧ b0 = (0 + 1, zeroQ.cs) ∧ fr = ⟨[(1, .v w), (4, .l 0 (0 + 1) 0), (7, .l 1 (0 + 1) 0), (17, .v v), (18, .v (.int .i64 l.length)), (19, .v (.int .i64 i))], [b0, (0 + 1, s.cs), b2]⟩) l.length
      ⟨0, zeroQ, _, _, by omega, exty, by omega, zeroQ_q, by decide, rfl, rfl⟩ ?_
    rintro n fr h' ⟨i, s, b0, ⟨g, cs⟩, rfl, e, hi, hs, hsb, rfl, rfl⟩
    have hv' := hv.ext e
    have hw' := hw.ext e
    by_cases hlt : i < l.length
    · obtain ⟨x, hx⟩ := get_lt hlt
      obtain ⟨t, ht⟩ := get_lt (l := vs) (i := i) (by omega)
      have hz : (l.zip vs)[i]? = some (x, t) := by
        rw [List.getElem?_zip_eq_some]; exact ⟨hx, ht⟩
      have hiv : i < vs.length := by omega
      repeat' first | (with_reducible first | exact SetAt.z | apply SetAt.s | apply s_end | exact Kept.nil) | refine qq (hk := ?_) | ((with_reducible first | apply Kept.cons | apply q_blky); rfl) | ((with_reducible apply Kept.skip); rfl) | (apply s_q; rfl; (first | ((with_reducible apply q_iaTN); rfl; rfl; (with_reducible rfl); assumption; omega) | ((with_reducible apply q_ldVt); rfl; assumption; assumption) | ((with_reducible apply q_ldTri); rfl; assumption; assumption) | ((with_reducible apply q_llV (y := x)); rfl; rfl))) | refine wq (hk := ?_) | (apply c_condP; rfl; exact bpx; all_goals intro hc) | ((first | apply s_gTP | apply s_gFP); rfl; exact bpx; all_goals intro hg) | (apply s_lalloc; rfl) | ((first | apply s_lbox | apply s_lstoreR); rfl; rfl; rfl) | (apply s_lstore; rfl; rfl; rfl; rfl; rfl) | (apply s_callB (hm := YC.m _ _); rfl; intro h3 o3 b3) | ((with_reducible apply s_lstoreV (y := x)); rfl; rfl; rfl; rfl)
      refine k30 (x := x) (t := t) (hle x (List.mem_of_getElem? hx)) (hle2 t (List.mem_of_getElem? ht)) fun u h1 e1 hu1 hu2 => ?_
      intro h2 o2 b2
      have f1 := Ext.br o3 e1 o2 b2
      repeat' first | (with_reducible first | exact SetAt.z | apply SetAt.s | apply s_end | exact Kept.nil) | refine qq (hk := ?_) | ((with_reducible first | apply Kept.cons | apply q_blky); rfl) | ((with_reducible apply Kept.skip); rfl) | refine wq (hk := ?_) | (apply c_condP; rfl; exact bpx; all_goals intro hc) | ((first | apply s_gTP | apply s_gFP); rfl; exact bpx; all_goals intro hg) | (apply s_lalloc; rfl) | ((first | apply s_lbox | apply s_lstoreR); rfl; rfl; rfl) | (apply s_lstore; rfl; rfl; rfl; rfl; rfl) | (apply s_callB (hm := YC.m _ _); rfl; intro h3 o3 b3)
      refine k29' (s := s) (t := u) (hsb.mono (by omega)) (hu2.mono (by omega)) fun h4 e4 => ?_
      intro h5 o5 b5
      have f2 := Ext.br o3 e4 o5 b5
      repeat' first | (with_reducible first | exact SetAt.z | apply SetAt.s | apply s_end | exact Kept.nil) | refine qq (hk := ?_) | ((with_reducible first | apply Kept.cons | apply q_blky); rfl) | ((with_reducible apply Kept.skip); rfl) | refine wq (hk := ?_) | (apply c_condP; rfl; exact bpx; all_goals intro hc) | ((first | apply s_gTP | apply s_gFP); rfl; exact bpx; all_goals intro hg) | (apply s_lalloc; rfl) | ((first | apply s_lbox | apply s_lstoreR); rfl; rfl; rfl) | (apply s_lstore; rfl; rfl; rfl; rfl; rfl) | (apply s_callB (hm := YC.m _ _); rfl; intro h3 o3 b3)
      refine q_seql (m := l.length - (i + 1)) (by omega) ⟨i + 1, _, _, _, rfl, e.trans (f1.trans f2), by omega, ?_, triT_le ?_, rfl, rfl⟩
      · rw [triT_q, floorq_snoc hz, hs, hu1]; rfl
      · split
        · exact hu2.bd (by omega)
        · exact hsb.bd (by omega)
    · have hi2 : (l.zip vs).take i = l.zip vs := List.take_of_length_le (by rw [List.length_zip]; omega)
      rw [hi2] at hs
      repeat' first | (with_reducible first | exact SetAt.z | apply SetAt.s | apply s_end | exact Kept.nil) | refine qq (hk := ?_) | ((with_reducible first | apply Kept.cons | apply q_blky); rfl) | ((with_reducible apply Kept.skip); rfl) | refine wq (hk := ?_) | (apply c_condP; rfl; exact bpx; all_goals intro hc) | ((first | apply s_gTP | apply s_gFP); rfl; exact bpx; all_goals intro hg) | (apply s_lalloc; rfl) | ((first | apply s_lbox | apply s_lstoreR); rfl; rfl; rfl) | (apply s_lstore; rfl; rfl; rfl; rfl; rfl) | (apply s_callB (hm := YC.m _ _); rfl; intro h3 o3 b3)
      refine k32 (by omega) fun h4 e4 => ?_
      intro h5 o5 b5
      have f1 := Ext.br o3 e4 o5 b5
      repeat' first | (with_reducible first | exact SetAt.z | apply SetAt.s | apply s_end | exact Kept.nil) | refine qq (hk := ?_) | ((with_reducible first | apply Kept.cons | apply q_blky); rfl) | ((with_reducible apply Kept.skip); rfl) | refine wq (hk := ?_) | (apply c_condP; rfl; exact bpx; all_goals intro hc) | ((first | apply s_gTP | apply s_gFP); rfl; exact bpx; all_goals intro hg) | (apply s_lalloc; rfl) | ((first | apply s_lbox | apply s_lstoreR); rfl; rfl; rfl) | (apply s_lstore; rfl; rfl; rfl; rfl; rfl) | (apply s_callB (hm := YC.m _ _); rfl; intro h3 o3 b3)
      refine k31' (s := s) (t := triT ((1 : Int) : Rat)) (hsb.mono (by omega)) (Tri.Le.mono (triT_le (Bd.int (K := 48) (by omega) (by decide))) (by omega)) fun h6 e6 => ?_
      intro h7 o7 b7
      have f2 := Ext.br o3 e6 o7 b7
      repeat' first | (with_reducible first | exact SetAt.z | apply SetAt.s | apply s_end | exact Kept.nil) | refine qq (hk := ?_) | ((with_reducible first | apply Kept.cons | apply q_blky); rfl) | ((with_reducible apply Kept.skip); rfl) | refine wq (hk := ?_) | (apply c_condP; rfl; exact bpx; all_goals intro hc) | ((first | apply s_gTP | apply s_gFP); rfl; exact bpx; all_goals intro hg) | (apply s_lalloc; rfl) | ((first | apply s_lbox | apply s_lstoreR); rfl; rfl; rfl) | (apply s_lstore; rfl; rfl; rfl; rfl; rfl) | (apply s_callB (hm := YC.m _ _); rfl; intro h3 o3 b3)
      rw [triT_q, hs, int_one, ← hc0]
      refine hq (triT _) _ (e.trans (f1.trans f2)) (triT_q _) (by rw [triT_q])
  · rw [if_neg hc0] at hq
    repeat' first | (with_reducible first | exact SetAt.z | apply SetAt.s | apply s_end | exact Kept.nil) | refine qq (hk := ?_) | ((with_reducible first | apply Kept.cons | apply q_blky); rfl) | ((with_reducible apply Kept.skip); rfl) | refine wq (hk := ?_) | (apply c_condP; rfl; exact bpx; all_goals intro hc) | ((first | apply s_gTP | apply s_gFP); rfl; exact bpx; all_goals intro hg) | (apply s_lalloc; rfl) | ((first | apply s_lbox | apply s_lstoreR); rfl; rfl; rfl) | (apply s_lstore; rfl; rfl; rfl; rfl; rfl) | (apply s_callB (hm := YC.m _ _); rfl; intro h3 o3 b3)
    exact hq zeroQ _ exty zeroQ_q (by rw [zeroQ_q]; exact zeroQ_eq)
end
end Am
end Go.Proofs.YtfhlblclcdhbiaaGreatDoor

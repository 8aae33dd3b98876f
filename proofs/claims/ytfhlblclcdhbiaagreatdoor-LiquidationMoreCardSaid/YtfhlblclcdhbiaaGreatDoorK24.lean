/- The reference's floor. -/
import Derived.Test.YtfhlblclcdhbiaaGreatDoorK23
namespace Go.Proofs.YtfhlblclcdhbiaaGreatDoor
open Go
set_option linter.unusedVariables false
set_option linter.unusedSimpArgs false
namespace Am
def refq (x : Vt) (t : Tri) : Rat := if x.am.q = 0 then (if t.q = 0 then 0 else x.ask.q) else if t.q / x.am.q < x.ask.q then t.q / x.am.q else x.ask.q
theorem refq_least {x : Vt} {t : Tri} (hx : ¬ badV x) (ht : ¬ badT t) : refq x t = leastq x t := by
  have h1 : 0 ≤ x.ask.q := Rat.not_lt.mp fun hh => hx (.inr (sgn_neg.mpr hh))
  unfold refq leastq
  by_cases h0 : t.q = 0
  · rw [if_pos h0, if_pos h0]
    by_cases ha : x.am.q = 0
    · rw [if_pos ha]
    · rw [if_neg ha, h0, Rat.div_def, Rat.zero_mul]
      split
      · rfl
      · exact Rat.le_antisymm (Rat.not_lt.mp (by assumption)) h1
  · rw [if_neg h0, if_neg h0]
    by_cases ha : x.am.q = 0
    · rw [if_pos ha, if_pos ha]
    · rw [if_neg ha, if_neg ha]
      split
      · rename_i h2
        rw [if_neg (Rat.not_lt.mpr (Rat.le_of_lt h2))]
      · rename_i h2
        split
        · rfl
        · rename_i h3
          exact Rat.le_antisymm (Rat.not_lt.mp h2) (Rat.not_lt.mp h3)
theorem Bd.ite {c : Prop} [Decidable c] {K : Nat} {p q : Rat} (h1 : Bd K p) (h2 : Bd K q) : Bd K (if c then p else q) := by split <;> assumption
section
variable {B0 : Nat} {Q : Value → AH → Prop} {h : AH}
def Tri.Ok (s : Tri) : Prop := s = triT s.q
theorem triT_ok {q : Rat} : (triT q).Ok := by unfold Tri.Ok; rw [triT_q]
theorem zeroQ_ok : zeroQ.Ok := by unfold Tri.Ok; rw [zeroQ_q]; exact zeroQ_eq
theorem Tri.Ok.v {s : Tri} (h : s.Ok) : s.v = er s.q := by
  have : s.v = (triT s.q).v := congrArg Tri.v h
  exact this
theorem k35' {t : Tri} (ht : t.Le 68719476736) (hq : ∀ h', Ext h h' → Q (triT t.q).v h') : YC Tryz.prog B0 35 [t.v] Q h := k35 ht.1 ht.2 hq
theorem k36' {s t : Tri} {K : Nat} (hK0 : 0 < K) (hK : K ≤ 34359738368) (hs : s.Le K) (ht : t.Le K) (hq : ∀ h', Ext h h' → Q (.tuple #[(triT (s.q / t.q)).v, .bool (!decide (t.q = 0))]) h') : YC Tryz.prog B0 36 [s.v, t.v] Q h := k36 hK0 hK hs.1 hs.2 ht.1 ht.2 hq
theorem k37' {s t : Tri} {K : Nat} (hK : K ≤ 34359738368) (hs : Bd K s.q) (ht : Bd K t.q) (h1 : s.Ok) (h2 : t.Ok) (hq : ∀ h', Ext h h' → Q (triT (if t.q < s.q then t.q else s.q)).v h') : YC Tryz.prog B0 37 [s.v, t.v] Q h := by
  rw [h1.v, h2.v]; exact k37 hK hs ht hq
theorem k39' {s t : Tri} {K : Nat} (hK : K ≤ 34359738368) (hs : Bd K s.q) (ht : Bd K t.q) (h1 : s.Ok) (h2 : t.Ok) (hq : ∀ h', Ext h h' → Q (triT (if s.q < t.q then t.q else s.q)).v h') : YC Tryz.prog B0 39 [s.v, t.v] Q h := by
  rw [h1.v, h2.v]; exact k39 hK hs ht hq
theorem k40' (hq : Q (triT 1).v h) : YC Tryz.prog B0 40 [] Q h := k40 hq
theorem k13 {l : List Vt} {vs : List Tri} {v w : Value} (hl : l.length ≤ 9223372036854775807) (hl2 : vs.length ≤ 9223372036854775807) (hv : VS h.ob l v) (hw : RS h.ob vs w) (hle : ∀ x ∈ l, x.Le 24) (hle2 : ∀ x ∈ vs, x.Le 24)
    (hq : ∀ (s : Tri) h', Ext h h' → s.q = floorR l vs → s = triT s.q → Q (.tuple #[s.v, .int .i64 (chk l vs)]) h') : YC Tryz.prog B0 13 [v, w] Q h := by
  refine enterF mix Tryz.func13 ok13 rfl (tm := [(0, _), (1, _)]) (bx := [_, _, _, _]) rfl rfl fun hp => ?_
  repeat' first | (with_reducible first | exact SetAt.z | apply SetAt.s | apply s_end | exact Kept.nil) | refine qq (hk := ?_) | ((with_reducible first | apply Kept.cons | apply q_blky); rfl) | ((with_reducible apply Kept.skip); rfl) | refine wq (hk := ?_) | (apply c_condP; rfl; exact bpx; all_goals intro hc) | ((first | apply s_gTP | apply s_gFP); rfl; exact bpx; all_goals intro hg) | (apply s_lalloc; rfl) | ((first | apply s_lbox | apply s_lstoreR); rfl; rfl; rfl) | (apply s_lstore; rfl; rfl; rfl; rfl; rfl) | (apply s_callB (hm := YC.m _ _); rfl; intro h3 o3 b3)
  refine k34 hl hl2 hv hw (fun x hx => ⟨(hle x hx).1.mono (by omega), (hle x hx).2.mono (by omega)⟩) (fun x hx => (hle2 x hx).mono (by omega)) fun h1 e1 => ?_
  have hv1 := hv.ext e1
  have hw1 := hw.ext e1
  unfold floorR at hq
  by_cases hc0 : chk l vs = 0
  · obtain ⟨c1, c2, c3, c4⟩ := chk_len hc0
    rw [if_pos hc0] at hq
    repeat' first | (with_reducible first | exact SetAt.z | apply SetAt.s | apply s_end | exact Kept.nil) | refine qq (hk := ?_) | ((with_reducible first | apply Kept.cons | apply q_blky); rfl) | ((with_reducible apply Kept.skip); rfl) | refine wq (hk := ?_) | (apply c_condP; rfl; exact bpx; all_goals intro hc) | ((first | apply s_gTP | apply s_gFP); rfl; exact bpx; all_goals intro hg) | (apply s_lalloc; rfl) | ((first | apply s_lbox | apply s_lstoreR); rfl; rfl; rfl) | (apply s_lstore; rfl; rfl; rfl; rfl; rfl) | (apply s_callB (hm := YC.m _ _); rfl; intro h3 o3 b3)
    refine loopI (YC.m _ _) (fun n fr h' => ∃ (i : Nat) (s : Tri) (b0 b2 b3 : Nat × List Value), n = l.length - i ∧ Ext h h' ∧ i ≤ l.length ∧ s.q = floorq ((l.zip vs).take i) ∧ Bd 48 s.q ∧ s.Ok ∧ b0 = (0 + 1, zeroQ.cs) ∧ fr = ⟨[(0, .v v), (1, .v w), (4, .l 0 (0 + 1) 0), (7, .l 1 (0 + 1) 0), (8, .v (.int .i64 i))], [b0, (0 + 1, s.cs), b2, b3]⟩) l.length
      ⟨0, zeroQ, _, _, _, by omega, exty, by omega, zeroQ_q, by rw [zeroQ_q]; exact Bd.zero (by omega), zeroQ_ok, rfl, rfl⟩ ?_
    rintro n fr h' ⟨i, s, b0, ⟨g, cs⟩, ⟨g3, cs3⟩, rfl, e, hi, hs, hsb, hso, rfl, rfl⟩
    have hv' := hv.ext e
    have hw' := hw.ext e
    by_cases hlt : i < l.length
    · obtain ⟨x, hx⟩ := get_lt hlt
      obtain ⟨t, ht⟩ := get_lt (l := vs) (i := i) (by omega)
      have hz : (l.zip vs)[i]? = some (x, t) := by
        rw [List.getElem?_zip_eq_some]; exact ⟨hx, ht⟩
      have hiv : i < vs.length := by omega
      have hxm := List.mem_of_getElem? hx
      have htm := List.mem_of_getElem? ht
      have hrq := refq_least (c3 x hxm) (c4 t htm)
      obtain ⟨x1, x2⟩ := hle x hxm
      have t1 := hle2 t htm
      repeat' first | (with_reducible first | exact SetAt.z | apply SetAt.s | apply s_end | exact Kept.nil) | refine qq (hk := ?_) | ((with_reducible first | apply Kept.cons | apply q_blky); rfl) | ((with_reducible apply Kept.skip); rfl) | (apply s_q; rfl; (first | ((with_reducible apply q_iaTN); rfl; rfl; (with_reducible rfl); assumption; omega) | ((with_reducible apply q_ldAm); rfl; assumption; assumption) | ((with_reducible apply q_ldAsk); rfl; assumption; assumption) | ((with_reducible apply q_ldTri); rfl; assumption; assumption))) | refine wq (hk := ?_) | (apply c_condP; rfl; exact bpx; all_goals intro hc) | ((first | apply s_gTP | apply s_gFP); rfl; exact bpx; all_goals intro hg) | (apply s_lalloc; rfl) | ((first | apply s_lbox | apply s_lstoreR); rfl; rfl; rfl) | (apply s_lstore; rfl; rfl; rfl; rfl; rfl) | (apply s_callB (hm := YC.m _ _); rfl; intro h3 o3 b3)
      refine k35' (t := x.ask) (x2.mono (by omega)) fun h2 e2 => ?_
      have hv2 := hv'.ext e2
      have hw2 := hw'.ext e2
      repeat' first | (with_reducible first | exact SetAt.z | apply SetAt.s | apply s_end | exact Kept.nil) | refine qq (hk := ?_) | ((with_reducible first | apply Kept.cons | apply q_blky); rfl) | ((with_reducible apply Kept.skip); rfl) | (apply s_q; rfl; (first | ((with_reducible apply q_iaTN); rfl; rfl; (with_reducible rfl); assumption; omega) | ((with_reducible apply q_ldAm); rfl; assumption; assumption) | ((with_reducible apply q_ldAsk); rfl; assumption; assumption) | ((with_reducible apply q_ldTri); rfl; assumption; assumption))) | refine wq (hk := ?_) | (apply c_condP; rfl; exact bpx; all_goals intro hc) | ((first | apply s_gTP | apply s_gFP); rfl; exact bpx; all_goals intro hg) | (apply s_lalloc; rfl) | ((first | apply s_lbox | apply s_lstoreR); rfl; rfl; rfl) | (apply s_lstore; rfl; rfl; rfl; rfl; rfl) | (apply s_callB (hm := YC.m _ _); rfl; intro h3 o3 b3)
      refine k36' (K := 24) (s := t) (t := x.am) (by omega) (by omega) t1 x1 fun h4 e4 => ?_
      intro h5 o5 b5
      have f2 := Ext.br o3 e4 o5 b5
      have hv3 := hv2.ext f2
      have hw3 := hw2.ext f2
      unfold refq at hrq
      by_cases ha : x.am.q = 0
      · rw [if_pos ha] at hrq
        rw [show (!decide (x.am.q = 0)) = false by simp [ha]]
        repeat' first | (with_reducible first | exact SetAt.z | apply SetAt.s | apply s_end | exact Kept.nil) | refine qq (hk := ?_) | ((with_reducible first | apply Kept.cons | apply q_blky); rfl) | ((with_reducible apply Kept.skip); rfl) | (apply s_q; rfl; (first | ((with_reducible apply q_iaTN); rfl; rfl; (with_reducible rfl); assumption; omega) | ((with_reducible apply q_ldTri); rfl; assumption; assumption))) | refine wq (hk := ?_) | (apply c_condP; rfl; exact bpx; all_goals intro hc) | ((first | apply s_gTP | apply s_gFP); rfl; exact bpx; all_goals intro hg) | (apply s_lalloc; rfl) | ((first | apply s_lbox | apply s_lstoreR); rfl; rfl; rfl) | (apply s_lstore; rfl; rfl; rfl; rfl; rfl) | (apply s_callB (hm := YC.m _ _); rfl; intro h3 o3 b3)
        refine k38' (t := t) (t1.mono (by omega)) fun h6 e6 => ?_
        by_cases h0 : t.q = 0
        · rw [if_pos h0] at hrq
          have hsg := sgn_zero.mpr h0
          repeat' first | (with_reducible first | exact SetAt.z | apply SetAt.s | apply s_end | exact Kept.nil) | refine qq (hk := ?_) | ((with_reducible first | apply Kept.cons | apply q_blky); rfl) | ((with_reducible apply Kept.skip); rfl) | refine wq (hk := ?_) | (apply c_condP; rfl; exact bpx; all_goals intro hc) | ((first | apply s_gTP | apply s_gFP); rfl; exact bpx; all_goals intro hg) | (apply s_lalloc; rfl) | ((first | apply s_lbox | apply s_lstoreR); rfl; rfl; rfl) | (apply s_lstore; rfl; rfl; rfl; rfl; rfl) | (apply s_callB (hm := YC.m _ _); rfl; intro h3 o3 b3)
          refine k39' (K := 48) (s := s) (t := zeroQ) (by omega) hsb (by rw [zeroQ_q]; exact Bd.zero (by omega)) hso zeroQ_ok fun h7 e7 => ?_
          repeat' first | (with_reducible first | exact SetAt.z | apply SetAt.s | apply s_end | exact Kept.nil) | refine qq (hk := ?_) | ((with_reducible first | apply Kept.cons | apply q_blky); rfl) | ((with_reducible apply Kept.skip); rfl) | refine wq (hk := ?_) | (apply c_condP; rfl; exact bpx; all_goals intro hc) | ((first | apply s_gTP | apply s_gFP); rfl; exact bpx; all_goals intro hg) | (apply s_lalloc; rfl) | ((first | apply s_lbox | apply s_lstoreR); rfl; rfl; rfl) | (apply s_lstore; rfl; rfl; rfl; rfl; rfl) | (apply s_callB (hm := YC.m _ _); rfl; intro h3 o3 b3)
          refine q_seql (m := l.length - (i + 1)) (by omega) ⟨i + 1, triT _, _, _, _, rfl, e.trans (e2.trans (f2.trans (e6.trans e7))), by omega, ?_, ?_, triT_ok, rfl, rfl⟩
          · rw [triT_q, floorq_snoc hz, hs, zeroQ_q, ← hrq]; rfl
          · rw [triT_q, zeroQ_q]
            split
            · exact Bd.zero (by omega)
            · exact hsb
        · rw [if_neg h0] at hrq
          have hsg : ¬ sgn t.q = 0 := fun hh => h0 (sgn_zero.mp hh)
          repeat' first | (with_reducible first | exact SetAt.z | apply SetAt.s | apply s_end | exact Kept.nil) | refine qq (hk := ?_) | ((with_reducible first | apply Kept.cons | apply q_blky); rfl) | ((with_reducible apply Kept.skip); rfl) | refine wq (hk := ?_) | (apply c_condP; rfl; exact bpx; all_goals intro hc) | ((first | apply s_gTP | apply s_gFP); rfl; exact bpx; all_goals intro hg) | (apply s_lalloc; rfl) | ((first | apply s_lbox | apply s_lstoreR); rfl; rfl; rfl) | (apply s_lstore; rfl; rfl; rfl; rfl; rfl) | (apply s_callB (hm := YC.m _ _); rfl; intro h3 o3 b3)
          refine k39' (K := 48) (s := s) (t := triT x.ask.q) (by omega) hsb (by rw [triT_q]; exact (x2.bd (by omega)).mono (by omega)) hso triT_ok fun h7 e7 => ?_
          repeat' first | (with_reducible first | exact SetAt.z | apply SetAt.s | apply s_end | exact Kept.nil) | refine qq (hk := ?_) | ((with_reducible first | apply Kept.cons | apply q_blky); rfl) | ((with_reducible apply Kept.skip); rfl) | refine wq (hk := ?_) | (apply c_condP; rfl; exact bpx; all_goals intro hc) | ((first | apply s_gTP | apply s_gFP); rfl; exact bpx; all_goals intro hg) | (apply s_lalloc; rfl) | ((first | apply s_lbox | apply s_lstoreR); rfl; rfl; rfl) | (apply s_lstore; rfl; rfl; rfl; rfl; rfl) | (apply s_callB (hm := YC.m _ _); rfl; intro h3 o3 b3)
          refine q_seql (m := l.length - (i + 1)) (by omega) ⟨i + 1, triT _, _, _, _, rfl, e.trans (e2.trans (f2.trans (e6.trans e7))), by omega, ?_, ?_, triT_ok, rfl, rfl⟩
          · rw [triT_q, floorq_snoc hz, hs, triT_q, ← hrq]; rfl
          · rw [triT_q, triT_q]
            split
            · exact (x2.bd (by omega)).mono (by omega)
            · exact hsb
      · rw [if_neg ha] at hrq
        rw [show (!decide (x.am.q = 0)) = true by simp [ha]]
        have hb : Bd 48 (t.q / x.am.q) := (t1.bd (by omega)).div (x1.bd (by omega)) ha
        have hb2 : Bd 48 x.ask.q := (x2.bd (by omega)).mono (by omega)
        repeat' first | (with_reducible first | exact SetAt.z | apply SetAt.s | apply s_end | exact Kept.nil) | refine qq (hk := ?_) | ((with_reducible first | apply Kept.cons | apply q_blky); rfl) | ((with_reducible apply Kept.skip); rfl) | refine wq (hk := ?_) | (apply c_condP; rfl; exact bpx; all_goals intro hc) | ((first | apply s_gTP | apply s_gFP); rfl; exact bpx; all_goals intro hg) | (apply s_lalloc; rfl) | ((first | apply s_lbox | apply s_lstoreR); rfl; rfl; rfl) | (apply s_lstore; rfl; rfl; rfl; rfl; rfl) | (apply s_callB (hm := YC.m _ _); rfl; intro h3 o3 b3)
        refine k37' (K := 48) (s := triT x.ask.q) (t := triT (t.q / x.am.q)) (by omega) (by rw [triT_q]; exact hb2) (by rw [triT_q]; exact hb) triT_ok triT_ok fun h6 e6 => ?_
        rw [triT_q, triT_q]
        repeat' first | (with_reducible first | exact SetAt.z | apply SetAt.s | apply s_end | exact Kept.nil) | refine qq (hk := ?_) | ((with_reducible first | apply Kept.cons | apply q_blky); rfl) | ((with_reducible apply Kept.skip); rfl) | refine wq (hk := ?_) | (apply c_condP; rfl; exact bpx; all_goals intro hc) | ((first | apply s_gTP | apply s_gFP); rfl; exact bpx; all_goals intro hg) | (apply s_lalloc; rfl) | ((first | apply s_lbox | apply s_lstoreR); rfl; rfl; rfl) | (apply s_lstore; rfl; rfl; rfl; rfl; rfl) | (apply s_callB (hm := YC.m _ _); rfl; intro h3 o3 b3)
        have hb3 : Bd 48 (if t.q / x.am.q < x.ask.q then t.q / x.am.q else x.ask.q) := by split <;> assumption
        refine k39' (K := 48) (s := s) (t := triT (if t.q / x.am.q < x.ask.q then t.q / x.am.q else x.ask.q)) (by omega) hsb (by rw [triT_q]; exact hb3) hso triT_ok fun h7 e7 => ?_
        repeat' first | (with_reducible first | exact SetAt.z | apply SetAt.s | apply s_end | exact Kept.nil) | refine qq (hk := ?_) | ((with_reducible first | apply Kept.cons | apply q_blky); rfl) | ((with_reducible apply Kept.skip); rfl) | refine wq (hk := ?_) | (apply c_condP; rfl; exact bpx; all_goals intro hc) | ((first | apply s_gTP | apply s_gFP); rfl; exact bpx; all_goals intro hg) | (apply s_lalloc; rfl) | ((first | apply s_lbox | apply s_lstoreR); rfl; rfl; rfl) | (apply s_lstore; rfl; rfl; rfl; rfl; rfl) | (apply s_callB (hm := YC.m _ _); rfl; intro h3 o3 b3)
        refine q_seql (m := l.length - (i + 1)) (by omega) ⟨i + 1, triT _, _, _, _, rfl, e.trans (e2.trans (f2.trans (e6.trans e7))), by omega, ?_, ?_, triT_ok, rfl, rfl⟩
        · rw [triT_q, floorq_snoc hz, hs, triT_q, ← hrq]; rfl
        · rw [triT_q, triT_q]
          exact Bd.ite hb3 hsb
    · have hi2 : (l.zip vs).take i = l.zip vs := List.take_of_length_le (by rw [List.length_zip]; omega)
      rw [hi2] at hs
      repeat' first | (with_reducible first | exact SetAt.z | apply SetAt.s | apply s_end | exact Kept.nil) | refine qq (hk := ?_) | ((with_reducible first | apply Kept.cons | apply q_blky); rfl) | ((with_reducible apply Kept.skip); rfl) | refine wq (hk := ?_) | (apply c_condP; rfl; exact bpx; all_goals intro hc) | ((first | apply s_gTP | apply s_gFP); rfl; exact bpx; all_goals intro hg) | (apply s_lalloc; rfl) | ((first | apply s_lbox | apply s_lstoreR); rfl; rfl; rfl) | (apply s_lstore; rfl; rfl; rfl; rfl; rfl) | (apply s_callB (hm := YC.m _ _); rfl; intro h3 o3 b3)
      refine k40' ?_
      intro h5 o5 b5
      have f1 := Ext.br o3 (Ext.refl _) o5 b5
      repeat' first | (with_reducible first | exact SetAt.z | apply SetAt.s | apply s_end | exact Kept.nil) | refine qq (hk := ?_) | ((with_reducible first | apply Kept.cons | apply q_blky); rfl) | ((with_reducible apply Kept.skip); rfl) | refine wq (hk := ?_) | (apply c_condP; rfl; exact bpx; all_goals intro hc) | ((first | apply s_gTP | apply s_gFP); rfl; exact bpx; all_goals intro hg) | (apply s_lalloc; rfl) | ((first | apply s_lbox | apply s_lstoreR); rfl; rfl; rfl) | (apply s_lstore; rfl; rfl; rfl; rfl; rfl) | (apply s_callB (hm := YC.m _ _); rfl; intro h3 o3 b3)
      refine k37' (K := 48) (s := s) (t := triT 1) (by omega) hsb (by rw [triT_q]; exact Bd.int (K := 48) (n := 1) (by omega) (by decide)) hso triT_ok fun h6 e6 => ?_
      intro h7 o7 b7
      have f2 := Ext.br o3 e6 o7 b7
      repeat' first | (with_reducible first | exact SetAt.z | apply SetAt.s | apply s_end | exact Kept.nil) | refine qq (hk := ?_) | ((with_reducible first | apply Kept.cons | apply q_blky); rfl) | ((with_reducible apply Kept.skip); rfl) | refine wq (hk := ?_) | (apply c_condP; rfl; exact bpx; all_goals intro hc) | ((first | apply s_gTP | apply s_gFP); rfl; exact bpx; all_goals intro hg) | (apply s_lalloc; rfl) | ((first | apply s_lbox | apply s_lstoreR); rfl; rfl; rfl) | (apply s_lstore; rfl; rfl; rfl; rfl; rfl) | (apply s_callB (hm := YC.m _ _); rfl; intro h3 o3 b3)
      rw [triT_q, hs, ← hc0]
      refine hq (triT _) _ (e.trans (f1.trans f2)) (triT_q _) (by rw [triT_q])
  · rw [if_neg hc0] at hq
    repeat' first | (with_reducible first | exact SetAt.z | apply SetAt.s | apply s_end | exact Kept.nil) | refine qq (hk := ?_) | ((with_reducible first | apply Kept.cons | apply q_blky); rfl) | ((with_reducible apply Kept.skip); rfl) | refine wq (hk := ?_) | (apply c_condP; rfl; exact bpx; all_goals intro hc) | ((first | apply s_gTP | apply s_gFP); rfl; exact bpx; all_goals intro hg) | (apply s_lalloc; rfl) | ((first | apply s_lbox | apply s_lstoreR); rfl; rfl; rfl) | (apply s_lstore; rfl; rfl; rfl; rfl; rfl) | (apply s_callB (hm := YC.m _ _); rfl; intro h3 o3 b3)
    exact hq zeroQ _ exty zeroQ_q (by rw [zeroQ_q]; exact zeroQ_eq)
end
end Am
end Go.Proofs.YtfhlblclcdhbiaaGreatDoor

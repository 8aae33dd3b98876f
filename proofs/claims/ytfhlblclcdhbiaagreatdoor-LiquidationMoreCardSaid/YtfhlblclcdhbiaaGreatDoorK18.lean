/- Lists of numbers, lists of voters. -/
import Derived.Test.YtfhlblclcdhbiaaGreatDoorK17
namespace Go.Proofs.YtfhlblclcdhbiaaGreatDoor
open Go
set_option linter.unusedVariables false
set_option linter.unusedSimpArgs false
namespace Am
/-- three cells: a sign, two strings -/
structure Tri where
  n : Bool
  a : List UInt8
  b : List UInt8
def Tri.v (t : Tri) : Value := rat t.n (bs t.a) (bs t.b)
def Tri.cs (t : Tri) : List Value := [.bool t.n, .string (bs t.a), .string (bs t.b)]
def Tri.q (t : Tri) : Rat := dec t.n t.a t.b
def Tri.Le (t : Tri) (K : Nat) : Prop := t.a.length ≤ K ∧ t.b.length ≤ K
instance (t : Tri) (K : Nat) : Decidable (t.Le K) := by unfold Tri.Le; infer_instance
def triT (q : Rat) : Tri := ⟨decide (q.num < 0), sb q.num.natAbs, strD q.den⟩
theorem triT_v (q : Rat) : (triT q).v = er q := rfl
theorem triT_q (q : Rat) : (triT q).q = q := dec_er q
theorem triT_le {q : Rat} {K : Nat} (h : Bd K q) : (triT q).Le K := h.sb
/-- a voter's cells -/
structure Vt where
  p : Int
  am : Tri
  ask : Tri
  ex : Bool
def Vt.cs (x : Vt) : List Value := [.int .i64 x.p, .bool x.am.n, .string (bs x.am.a), .string (bs x.am.b), .bool x.ask.n, .string (bs x.ask.a), .string (bs x.ask.b), .bool x.ex]
def Vt.v (x : Vt) : Value := .agg #[.int .i64 x.p, .bool x.am.n, .string (bs x.am.a), .string (bs x.am.b), .bool x.ask.n, .string (bs x.ask.a), .string (bs x.ask.b), .bool x.ex]
theorem Tri.wd : ∀ t : Tri, t.cs.length = 3 := fun _ => rfl
theorem Vt.wd : ∀ t : Vt, t.cs.length = 8 := fun _ => rfl
abbrev RS (ob : Ob) (l : List Tri) (v : Value) : Prop := TS Tri.cs 3 ob l v
abbrev VS (ob : Ob) (l : List Vt) (v : Value) : Prop := TS Vt.cs 8 ob l v
section
variable {C : CT} {fr : Fr} {h : AH} {K : Fr → AH → Prop} {r : List AI} {tm : List (Nat × TV)} {bx : List (Nat × List Value)}
theorem q_iaTN {α : Type} {en : α → List Value} {sz : Nat} {l : List α} {x i : X} {v : Value} {k : IntKind} {j' : Int} {j : Nat} (hx : vl fr x = some v) (hi : vl fr i = some (.int k j')) (hj' : j' = (j : Int)) (hs : TS en sz h.ob l v) (hj : j < l.length) : qO (.ia sz x i) fr h = some (.v (pt v (j * sz))) := by
  have := q_iaT (k := k) hx hi hs (by omega)
  rw [hj'] at this
  exact this
theorem q_ldTri {a : X} {v : Value} {j : Nat} {l : List Tri} {x : Tri} (ha : vl fr a = some (pt v (j * 3))) (hs : RS h.ob l v) (hj : l[j]? = some x) : qO (.load 3 true a) fr h = some (.v x.v) := q_ldT ha hs hj rfl
theorem q_ldVt {a : X} {v : Value} {j : Nat} {l : List Vt} {x : Vt} (ha : vl fr a = some (pt v (j * 8))) (hs : VS h.ob l v) (hj : l[j]? = some x) : qO (.load 8 true a) fr h = some (.v x.v) := q_ldT ha hs hj rfl
theorem q_ldAm {a : X} {v : Value} {j : Nat} {l : List Vt} {x : Vt} (ha : vl fr a = some (pt v (j * 8 + 1))) (hs : VS h.ob l v) (hj : l[j]? = some x) : qO (.load 3 true a) fr h = some (.v x.am.v) := q_ldF ha hs hj (by omega) rfl
theorem q_ldAsk {a : X} {v : Value} {j : Nat} {l : List Vt} {x : Vt} (ha : vl fr a = some (pt v (j * 8 + 4))) (hs : VS h.ob l v) (hj : l[j]? = some x) : qO (.load 3 true a) fr h = some (.v x.ask.v) := q_ldF ha hs hj (by omega) rfl
theorem s_lstoreV {k g : Nat} {a x : X} {y : Vt} {cs : List Value} {bx' : List (Nat × List Value)} (ha : ad (⟨tm, bx⟩ : Fr) a = some (.l k g 0)) (hv : vl (⟨tm, bx⟩ : Fr) x = some y.v) (hb : bx[k]? = some (g, cs)) (hl : cs.length = 8)
    (hs : SetAt bx k (g, y.cs) bx') (hk : WI C r K ⟨tm, bx'⟩ h) : WI C (⟨none, none, .lstore 8 a x⟩ :: r) K (⟨tm, bx⟩ : Fr) h := by
  refine s_lstore ha hv rfl hb ?_ hs hk
  show over cs 0 y.cs = some y.cs
  have h8 : y.cs.length = 8 := rfl
  simp only [over, h8]
  rw [if_pos (by omega), List.take_zero, List.drop_eq_nil_of_le (by omega)]
  simp
theorem q_llV {k g : Nat} {a : X} {y : Vt} (ha : ad (⟨tm, bx⟩ : Fr) a = some (.l k g 0)) (hb : bx[k]? = some (g, y.cs)) : qO (.lload 8 true a) (⟨tm, bx⟩ : Fr) h = some (.v y.v) := by
  simp [qO, ha, hb, sub, ag, Vt.cs, Vt.v]
theorem q_llAm {k g : Nat} {a : X} {y : Vt} (ha : ad (⟨tm, bx⟩ : Fr) a = some (.l k g (0 + 1))) (hb : bx[k]? = some (g, y.cs)) : qO (.lload 3 true a) (⟨tm, bx⟩ : Fr) h = some (.v y.am.v) := by
  simp [qO, ha, hb, sub, ag, Vt.cs, Tri.v, rat]
theorem q_llAsk {k g : Nat} {a : X} {y : Vt} (ha : ad (⟨tm, bx⟩ : Fr) a = some (.l k g (0 + 4))) (hb : bx[k]? = some (g, y.cs)) : qO (.lload 3 true a) (⟨tm, bx⟩ : Fr) h = some (.v y.ask.v) := by
  simp [qO, ha, hb, sub, ag, Vt.cs, Tri.v, rat]
end
section
variable {B0 : Nat} {Q : Value → AH → Prop} {h : AH}
theorem k60' {t : Tri} (ht : t.Le 68719476736) (hq : ∀ h', Ext h h' → Q (.int .i64 (sgn t.q)) h') : YC Tryz.prog B0 60 [t.v] Q h := k60 ht.1 ht.2 hq
theorem k38' {t : Tri} (ht : t.Le 68719476736) (hq : ∀ h', Ext h h' → Q (.int .i64 (sgn t.q)) h') : YC Tryz.prog B0 38 [t.v] Q h := k38 ht.1 ht.2 hq
theorem k14' {t : Tri} (hq : Q (.bool (decide (t.Le 24))) h) : YC Tryz.prog B0 14 [t.v] Q h := k14 hq
theorem get_lt {α : Type} {l : List α} {i : Nat} (h : i < l.length) : ∃ x, l[i]? = some x := ⟨l[i], List.getElem?_eq_getElem h⟩
/-- all numbers are short -/
theorem k26 {l : List Tri} {v : Value} (hl : l.length ≤ 9223372036854775807) (hv : RS h.ob l v) (hq : ∀ b : Bool, (b = true → l.length ≤ 10 ∧ ∀ t ∈ l, t.Le 24) → Q (.bool b) h) : YC Tryz.prog B0 26 [v, .int .i64 10] Q h := by
  refine enterF mix Tryz.func26 ok26 rfl (tm := [(0, _), (1, _)]) (bx := [_]) rfl rfl fun hp => ?_
  by_cases h10 : l.length > 10
  · repeat' first | (with_reducible first | exact SetAt.z | apply SetAt.s | apply s_end | exact Kept.nil) | refine qq (hk := ?_) | ((with_reducible first | apply Kept.cons | apply q_blky); rfl) | ((with_reducible apply Kept.skip); rfl) | refine wq (hk := ?_) | (apply c_condP; rfl; exact bpx; all_goals intro hc) | ((first | apply s_gTP | apply s_gFP); rfl; exact bpx; all_goals intro hg) | (apply s_lalloc; rfl) | ((first | apply s_lbox | apply s_lstoreR); rfl; rfl; rfl) | (apply s_lstore; rfl; rfl; rfl; rfl; rfl) | (apply s_callB (hm := YC.m _ _); rfl; intro h3 o3 b3)
    exact hq _ (by simp)
  · repeat' first | (with_reducible first | exact SetAt.z | apply SetAt.s | apply s_end | exact Kept.nil) | refine qq (hk := ?_) | ((with_reducible first | apply Kept.cons | apply q_blky); rfl) | ((with_reducible apply Kept.skip); rfl) | refine wq (hk := ?_) | (apply c_condP; rfl; exact bpx; all_goals intro hc) | ((first | apply s_gTP | apply s_gFP); rfl; exact bpx; all_goals intro hg) | (apply s_lalloc; rfl) | ((first | apply s_lbox | apply s_lstoreR); rfl; rfl; rfl) | (apply s_lstore; rfl; rfl; rfl; rfl; rfl) | (apply s_callB (hm := YC.m _ _); rfl; intro h3 o3 b3)
    refine loopI (YC.m _ _) (fun n fr h' => ∃ (i : Nat) (b : Nat × List Value), n = l.length - i ∧ h' = h ∧ i ≤ l.length ∧ (∀ k t, k < i → l[k]? = some t → t.Le 24) ∧ fr = ⟨[(11, .v v), (12, .v (.int .i64 l.length)), (13, .v (.int .i64 i))], [b]⟩) l.length
      ⟨0, _, by omega, rfl, by omega, by omega, rfl⟩ ?_
    rintro n fr h' ⟨i, ⟨g, cs⟩, rfl, rfl, hi, hall, rfl⟩
    by_cases hlt : i < l.length
    · obtain ⟨x, hx⟩ := get_lt hlt
      repeat' first | (with_reducible first | exact SetAt.z | apply SetAt.s | apply s_end | exact Kept.nil) | refine qq (hk := ?_) | ((with_reducible first | apply Kept.cons | apply q_blky); rfl) | ((with_reducible apply Kept.skip); rfl) | (apply s_q; rfl; (first | ((with_reducible apply q_iaTN); rfl; rfl; (with_reducible rfl); assumption; omega) | ((with_reducible apply q_ldTri); rfl; assumption; assumption))) | refine wq (hk := ?_) | (apply c_condP; rfl; exact bpx; all_goals intro hc) | ((first | apply s_gTP | apply s_gFP); rfl; exact bpx; all_goals intro hg) | (apply s_lalloc; rfl) | ((first | apply s_lbox | apply s_lstoreR); rfl; rfl; rfl) | (apply s_lstore; rfl; rfl; rfl; rfl; rfl) | (apply s_callB (hm := YC.m _ _); rfl; intro h3 o3 b3) | ((with_reducible refine YCi (f := 14) ?_); (refine k14' (t := x) ?_))
      · exact hq _ (by simp)
      · have hx24 : x.Le 24 := by simpa using hc
        refine q_seql (m := l.length - (i + 1)) (by omega) ⟨i + 1, _, rfl, rfl, by omega, fun k t hk ht => ?_, rfl⟩
        by_cases hki : k = i
        · subst hki; rw [hx] at ht; cases ht; exact hx24
        · exact hall k t (by omega) ht
    · repeat' first | (with_reducible first | exact SetAt.z | apply SetAt.s | apply s_end | exact Kept.nil) | refine qq (hk := ?_) | ((with_reducible first | apply Kept.cons | apply q_blky); rfl) | ((with_reducible apply Kept.skip); rfl) | refine wq (hk := ?_) | (apply c_condP; rfl; exact bpx; all_goals intro hc) | ((first | apply s_gTP | apply s_gFP); rfl; exact bpx; all_goals intro hg) | (apply s_lalloc; rfl) | ((first | apply s_lbox | apply s_lstoreR); rfl; rfl; rfl) | (apply s_lstore; rfl; rfl; rfl; rfl; rfl) | (apply s_callB (hm := YC.m _ _); rfl; intro h3 o3 b3)
      refine hq _ fun _ => ⟨by omega, fun t ht => ?_⟩
      obtain ⟨k, hk⟩ := List.getElem?_of_mem ht
      exact hall k t (by have := (List.getElem?_eq_some_iff.mp hk).1; omega) hk
def small (l : List Vt) (vs : List Tri) : Prop := l.length ≤ 10 ∧ (∀ x ∈ l, x.am.Le 24 ∧ x.ask.Le 24) ∧ vs.length ≤ 10 ∧ ∀ t ∈ vs, t.Le 24
/-- few -/
theorem k8 {l : List Vt} {vs : List Tri} {v w : Value} (hl : l.length ≤ 9223372036854775807) (hl2 : vs.length ≤ 9223372036854775807) (hv : VS h.ob l v) (hw : RS h.ob vs w) (hq : ∀ b : Bool, (b = true → small l vs) → Q (.bool b) h) : YC Tryz.prog B0 8 [v, w] Q h := by
  refine enterF mix Tryz.func8 ok8 rfl (tm := [(0, _), (1, _)]) (bx := []) rfl rfl fun hp => ?_
  by_cases h10 : l.length > 10
  · repeat' first | (with_reducible first | exact SetAt.z | apply SetAt.s | apply s_end | exact Kept.nil) | refine qq (hk := ?_) | ((with_reducible first | apply Kept.cons | apply q_blky); rfl) | ((with_reducible apply Kept.skip); rfl) | refine wq (hk := ?_) | (apply c_condP; rfl; exact bpx; all_goals intro hc) | ((first | apply s_gTP | apply s_gFP); rfl; exact bpx; all_goals intro hg) | (apply s_lalloc; rfl) | ((first | apply s_lbox | apply s_lstoreR); rfl; rfl; rfl) | (apply s_lstore; rfl; rfl; rfl; rfl; rfl) | (apply s_callB (hm := YC.m _ _); rfl; intro h3 o3 b3)
    exact hq _ (by simp)
  · repeat' first | (with_reducible first | exact SetAt.z | apply SetAt.s | apply s_end | exact Kept.nil) | refine qq (hk := ?_) | ((with_reducible first | apply Kept.cons | apply q_blky); rfl) | ((with_reducible apply Kept.skip); rfl) | refine wq (hk := ?_) | (apply c_condP; rfl; exact bpx; all_goals intro hc) | ((first | apply s_gTP | apply s_gFP); rfl; exact bpx; all_goals intro hg) | (apply s_lalloc; rfl) | ((first | apply s_lbox | apply s_lstoreR); rfl; rfl; rfl) | (apply s_lstore; rfl; rfl; rfl; rfl; rfl) | (apply s_callB (hm := YC.m _ _); rfl; intro h3 o3 b3)
    refine k26 hl2 hw fun b hb => ?_
    cases b with
    | false =>
      repeat' first | (with_reducible first | exact SetAt.z | apply SetAt.s | apply s_end | exact Kept.nil) | refine qq (hk := ?_) | ((with_reducible first | apply Kept.cons | apply q_blky); rfl) | ((with_reducible apply Kept.skip); rfl) | refine wq (hk := ?_) | (apply c_condP; rfl; exact bpx; all_goals intro hc) | ((first | apply s_gTP | apply s_gFP); rfl; exact bpx; all_goals intro hg) | (apply s_lalloc; rfl) | ((first | apply s_lbox | apply s_lstoreR); rfl; rfl; rfl) | (apply s_lstore; rfl; rfl; rfl; rfl; rfl) | (apply s_callB (hm := YC.m _ _); rfl; intro h3 o3 b3)
      · exact hq _ (by simp)
      · exact absurd rfl hc
    | true =>
      obtain ⟨hb1, hb2⟩ := hb rfl
      repeat' first | (with_reducible first | exact SetAt.z | apply SetAt.s | apply s_end | exact Kept.nil) | refine qq (hk := ?_) | ((with_reducible first | apply Kept.cons | apply q_blky); rfl) | ((with_reducible apply Kept.skip); rfl) | refine wq (hk := ?_) | (apply c_condP; rfl; exact bpx; all_goals intro hc) | ((first | apply s_gTP | apply s_gFP); rfl; exact bpx; all_goals intro hg) | (apply s_lalloc; rfl) | ((first | apply s_lbox | apply s_lstoreR); rfl; rfl; rfl) | (apply s_lstore; rfl; rfl; rfl; rfl; rfl) | (apply s_callB (hm := YC.m _ _); rfl; intro h3 o3 b3)
      · exact absurd hc (by simp)
      refine loopI (YC.m _ _) (fun n fr h' => ∃ (i : Nat), n = l.length - i ∧ h' = h ∧ i ≤ l.length ∧ (∀ k x, k < i → l[k]? = some x → x.am.Le 24 ∧ x.ask.Le 24) ∧ fr = ⟨[(0, .v v), (5, .v (.int .i64 i))], []⟩) l.length
        ⟨0, by omega, rfl, by omega, by omega, rfl⟩ ?_
      rintro n fr h' ⟨i, rfl, rfl, hi, hall, rfl⟩
      by_cases hlt : i < l.length
      · obtain ⟨x, hx⟩ := get_lt hlt
        repeat' first | (with_reducible first | exact SetAt.z | apply SetAt.s | apply s_end | exact Kept.nil) | refine qq (hk := ?_) | ((with_reducible first | apply Kept.cons | apply q_blky); rfl) | ((with_reducible apply Kept.skip); rfl) | (apply s_q; rfl; (first | ((with_reducible apply q_iaTN); rfl; rfl; (with_reducible rfl); assumption; omega) | ((with_reducible apply q_ldAm); rfl; assumption; assumption) | ((with_reducible apply q_ldAsk); rfl; assumption; assumption))) | refine wq (hk := ?_) | (apply c_condP; rfl; exact bpx; all_goals intro hc) | ((first | apply s_gTP | apply s_gFP); rfl; exact bpx; all_goals intro hg) | (apply s_lalloc; rfl) | ((first | apply s_lbox | apply s_lstoreR); rfl; rfl; rfl) | (apply s_lstore; rfl; rfl; rfl; rfl; rfl) | (apply s_callB (hm := YC.m _ _); rfl; intro h3 o3 b3) | ((with_reducible refine YCi (f := 14) ?_); (refine k14' (t := x.am) ?_)) | ((with_reducible refine YCi (f := 14) ?_); (refine k14' (t := x.ask) ?_))
        · exact hq _ (by simp)
        · have hx1 : x.am.Le 24 := by simpa using hg
          have hx2 : x.ask.Le 24 := by simpa using hc
          refine q_seql (m := l.length - (i + 1)) (by omega) ⟨i + 1, rfl, rfl, by omega, fun k t hk ht => ?_, rfl⟩
          by_cases hki : k = i
          · subst hki; rw [hx] at ht; cases ht; exact ⟨hx1, hx2⟩
          · exact hall k t (by omega) ht
        · exact hq _ (by simp)
      · repeat' first | (with_reducible first | exact SetAt.z | apply SetAt.s | apply s_end | exact Kept.nil) | refine qq (hk := ?_) | ((with_reducible first | apply Kept.cons | apply q_blky); rfl) | ((with_reducible apply Kept.skip); rfl) | refine wq (hk := ?_) | (apply c_condP; rfl; exact bpx; all_goals intro hc) | ((first | apply s_gTP | apply s_gFP); rfl; exact bpx; all_goals intro hg) | (apply s_lalloc; rfl) | ((first | apply s_lbox | apply s_lstoreR); rfl; rfl; rfl) | (apply s_lstore; rfl; rfl; rfl; rfl; rfl) | (apply s_callB (hm := YC.m _ _); rfl; intro h3 o3 b3)
        refine hq _ fun _ => ⟨by omega, fun t ht => ?_, hb1, hb2⟩
        obtain ⟨k, hk⟩ := List.getElem?_of_mem ht
        exact hall k t (by have := (List.getElem?_eq_some_iff.mp hk).1; omega) hk
end
end Am
end Go.Proofs.YtfhlblclcdhbiaaGreatDoor

/- The reference's rational numbers. -/
import Derived.Test.YtfhlblclcdhbiaaGreatDoorK14
import Derived.Test.YtfhlblclcdhbiaaGreatDoorK12
namespace Go.Proofs.YtfhlblclcdhbiaaGreatDoor
open Go
set_option linter.unusedVariables false
set_option linter.unusedSimpArgs false
namespace Am
section
variable {B0 : Nat} {Q : Value → AH → Prop} {h : AH}
theorem k69 {neg : Bool} {a b : List UInt8} (ha : a.length ≤ 68719476736) (hb : b.length ≤ 68719476736) (hq : ∀ h', Ext h h' → Q (.bool (decide (okQ neg a b))) h') : YC Tryz.prog B0 69 [rat neg (bs a) (bs b)] Q h := by
  refine enterF mix Tryz.func69 ok69 rfl (tm := [(0, _)]) (bx := [_]) rfl rfl fun hp => ?_
  repeat' first | (with_reducible first | exact SetAt.z | apply SetAt.s | apply s_end | exact Kept.nil) | refine qq (hk := ?_) | ((with_reducible first | apply Kept.cons | apply q_blky); rfl) | ((with_reducible apply Kept.skip); rfl) | refine wq (hk := ?_) | (apply c_condP; rfl; exact bpx; all_goals intro hc) | ((first | apply s_gTP | apply s_gFP); rfl; exact bpx; all_goals intro hg) | (apply s_lalloc; rfl) | ((first | apply s_lbox | apply s_lstoreR); rfl; rfl; rfl) | (apply s_lstore; rfl; rfl; rfl; rfl; rfl) | (apply s_callB (hm := YC.m _ _); rfl; intro h3 o3 b3) | ((with_reducible refine YCi (f := 101) ?_); (refine k101 (by omega) ?_; try intro h2 o2 b2)) | ((with_reducible refine YCi (f := 102) ?_); (refine k102 (by omega) (by omega) fun h1 e1 => ?_))
  all_goals refine cast (congrArg (fun b => Q (.bool b) _) ?_) (hq _ exty)
  all_goals refine BP.de (by exact bpx) ?_
  all_goals (unfold okQ; simp_all [sb_eq_one])
theorem k35 {neg : Bool} {a b : List UInt8} (ha : a.length ≤ 68719476736) (hb : b.length ≤ 68719476736) (hq : ∀ h', Ext h h' → Q (er (dec neg a b)) h') : YC Tryz.prog B0 35 [rat neg (bs a) (bs b)] Q h := by
  refine enterF mix Tryz.func35 ok35 rfl (tm := [(0, _)]) (bx := [_, _]) rfl rfl fun hp => ?_
  repeat' first | (with_reducible first | exact SetAt.z | apply SetAt.s | apply s_end | exact Kept.nil) | refine qq (hk := ?_) | ((with_reducible first | apply Kept.cons | apply q_blky); rfl) | ((with_reducible apply Kept.skip); rfl) | refine wq (hk := ?_) | (apply c_condP; rfl; exact bpx; all_goals intro hc) | ((first | apply s_gTP | apply s_gFP); rfl; exact bpx; all_goals intro hg) | (apply s_lalloc; rfl) | ((first | apply s_lbox | apply s_lstoreR); rfl; rfl; rfl) | (apply s_lstore; rfl; rfl; rfl; rfl; rfl) | (apply s_callB (hm := YC.m _ _); rfl; intro h3 o3 b3) | ((with_reducible refine YCi (f := 69) ?_); (refine k69 ha hb fun h1 e1 => ?_))
  · rw [er_of hc]; exact hq _ exty
  · have e : er (dec neg a b) = rat false ⟨#[]⟩ ⟨#[]⟩ := by rw [dec, if_neg hc, er_zero]; rfl
    rw [← e]
    exact hq _ exty
theorem k47 {q : Rat} (hq : Q (.int .i64 (sgn q)) h) : YC Tryz.prog B0 47 [er q] Q h := by
  refine enterF mix Tryz.func47 ok47 rfl (tm := [(0, _)]) (bx := [_]) rfl rfl fun hp => ?_
  unfold sgn at hq
  repeat' first | (with_reducible first | exact SetAt.z | apply SetAt.s | apply s_end | exact Kept.nil) | refine qq (hk := ?_) | ((with_reducible first | apply Kept.cons | apply q_blky); rfl) | ((with_reducible apply Kept.skip); rfl) | refine wq (hk := ?_) | (apply c_condP; rfl; exact bpx; all_goals intro hc) | ((first | apply s_gTP | apply s_gFP); rfl; exact bpx; all_goals intro hg) | (apply s_lalloc; rfl) | ((first | apply s_lbox | apply s_lstoreR); rfl; rfl; rfl) | (apply s_lstore; rfl; rfl; rfl; rfl; rfl) | (apply s_callB (hm := YC.m _ _); rfl; intro h3 o3 b3)
  · have h0 : q.num = 0 := by rw [sb_nil] at hc; omega
    rw [if_pos h0] at hq
    exact hq
  · rename_i h1
    have h0 : ¬ q.num = 0 := by rw [sb_nil] at h1; omega
    have h2 : q.num < 0 := by simpa using hc
    rw [if_neg h0, if_pos h2] at hq
    exact hq
  · rename_i h1
    have h0 : ¬ q.num = 0 := by rw [sb_nil] at h1; omega
    have h2 : ¬ q.num < 0 := by simpa using hc
    rw [if_neg h0, if_neg h2] at hq
    exact hq
theorem k38 {neg : Bool} {a b : List UInt8} (ha : a.length ≤ 68719476736) (hb : b.length ≤ 68719476736) (hq : ∀ h', Ext h h' → Q (.int .i64 (sgn (dec neg a b))) h') : YC Tryz.prog B0 38 [rat neg (bs a) (bs b)] Q h := by
  refine enterF mix Tryz.func38 ok38 rfl (tm := [(0, _)]) (bx := [_]) rfl rfl fun hp => ?_
  repeat' first | (with_reducible first | exact SetAt.z | apply SetAt.s | apply s_end | exact Kept.nil) | refine qq (hk := ?_) | ((with_reducible first | apply Kept.cons | apply q_blky); rfl) | ((with_reducible apply Kept.skip); rfl) | refine wq (hk := ?_) | (apply c_condP; rfl; exact bpx; all_goals intro hc) | ((first | apply s_gTP | apply s_gFP); rfl; exact bpx; all_goals intro hg) | (apply s_lalloc; rfl) | ((first | apply s_lbox | apply s_lstoreR); rfl; rfl; rfl) | (apply s_lstore; rfl; rfl; rfl; rfl; rfl) | (apply s_callB (hm := YC.m _ _); rfl; intro h3 o3 b3) | ((with_reducible refine YCi (f := 35) ?_); (refine k35 ha hb fun h1 e1 => ?_)) | ((with_reducible refine YCi (f := 47) ?_); (refine k47 ?_))
  exact hq _ exty
theorem li_le {n K : Nat} (h : n < 256 ^ K) : (li n).length ≤ K := by
  have h1 := li_bv_len (sb n)
  rw [bv_sb] at h1
  exact Nat.le_trans h1 (sb_len h)
theorem lt_mul {x y K L : Nat} (hx : x < 256 ^ K) (hy : y < 256 ^ L) : x * y < 256 ^ (K + L) := by rw [Nat.pow_add]; exact Nat.mul_lt_mul'' hx hy
theorem lt_add {x y K : Nat} (hx : x < 256 ^ K) (hy : y < 256 ^ K) : x + y < 256 ^ (K + 1) := by rw [Nat.pow_succ]; omega
theorem k106 {q : Rat} {K : Nat} (hK : K ≤ 68719476736) (hb : Bd K q) (hq : ∀ v h', Ext h h' → US .u32 h'.ob (li q.den) v → Q v h') : YC Tryz.prog B0 106 [er q] Q h := by
  refine enterF mix Tryz.func106 ok106 rfl (tm := [(0, _)]) (bx := [_]) rfl rfl fun hp => ?_
  by_cases h1 : q.den = 1
  · have hc : strD q.den = [] := by unfold strD; rw [if_pos h1]
    repeat' first | (with_reducible first | exact SetAt.z | apply SetAt.s | apply s_end | exact Kept.nil) | refine qq (hk := ?_) | ((with_reducible first | apply Kept.cons | apply q_blky); rfl) | ((with_reducible apply Kept.skip); rfl) | refine wq (hk := ?_) | (apply c_condP; rfl; exact bpx; all_goals intro hc) | ((first | apply s_gTP | apply s_gFP); rfl; exact bpx; all_goals intro hg) | (apply s_lalloc; rfl) | ((first | apply s_lbox | apply s_lstoreR); rfl; rfl; rfl) | (apply s_lstore; rfl; rfl; rfl; rfl; rfl) | (apply s_callB (hm := YC.m _ _); rfl; intro h3 o3 b3)
    refine s_bsl (ps := [(0, [.int .u32 1])]) (cs := [.int .u32 1]) rfl rfl fun h2 n2 => ?_
    have u : US .u32 h2.ob [1] (.slice (some ⟨h.ob.length, 0, none⟩) 1 1) := UA.all (k := .u32) n2.at rfl (Nat.le_refl _)
    repeat' first | (with_reducible first | exact SetAt.z | apply SetAt.s | apply s_end | exact Kept.nil) | refine qq (hk := ?_) | ((with_reducible first | apply Kept.cons | apply q_blky); rfl) | ((with_reducible apply Kept.skip); rfl) | refine wq (hk := ?_) | (apply c_condP; rfl; exact bpx; all_goals intro hc) | ((first | apply s_gTP | apply s_gFP); rfl; exact bpx; all_goals intro hg) | (apply s_lalloc; rfl) | ((first | apply s_lbox | apply s_lstoreR); rfl; rfl; rfl) | (apply s_lstore; rfl; rfl; rfl; rfl; rfl) | (apply s_callB (hm := YC.m _ _); rfl; intro h3 o3 b3)
    rw [h1, li_one] at hq
    exact hq _ _ n2.ext u
  · have hs : strD q.den = sb q.den := by unfold strD; rw [if_neg h1]
    have hc : ¬ strD q.den = [] := by rw [hs, sb_nil]; exact q.den_nz
    have hl := hb.sb.2
    repeat' first | (with_reducible first | exact SetAt.z | apply SetAt.s | apply s_end | exact Kept.nil) | refine qq (hk := ?_) | ((with_reducible first | apply Kept.cons | apply q_blky); rfl) | ((with_reducible apply Kept.skip); rfl) | refine wq (hk := ?_) | (apply c_condP; rfl; exact bpx; all_goals intro hc) | ((first | apply s_gTP | apply s_gFP); rfl; exact bpx; all_goals intro hg) | (apply s_lalloc; rfl) | ((first | apply s_lbox | apply s_lstoreR); rfl; rfl; rfl) | (apply s_lstore; rfl; rfl; rfl; rfl; rfl) | (apply s_callB (hm := YC.m _ _); rfl; intro h3 o3 b3) | ((with_reducible refine YCi (f := 105) ?_); (refine k105 (by omega) fun v1 h1 e1 u1 => ?_))
    rw [hs, bv_sb] at u1
    exact hq _ _ exty u1
theorem big_cases {g : Nat} (hg : g ≠ 0) (h1 : g ≠ 1) : (li g).length > 1 ∨ (¬ (li g).length > 1 ∧ 0 < (li g).length ∧ (li g).getD (Int.toNat 0) 0 > 1) := by
  by_cases hl : (li g).length > 1
  · exact .inl hl
  · right
    have h2 := li_lt g
    have h3 : 0 < (li g).length := List.length_pos_iff.mpr (by rw [Ne, li_nil]; exact hg)
    have h4 : (li g).length = 1 := by omega
    rw [h4] at h2
    have h5 : (g : Int) < 4294967296 := by rw [show B 1 = 4294967296 by rfl] at h2; exact h2
    refine ⟨hl, h3, ?_⟩
    rw [li_small (by omega) (by omega)]
    show (g : Int) > 1
    omega
theorem k103 {neg : Bool} {n d : Nat} {v w : Value} (L1 : (li n).length ≤ 274877906944) (L2 : (li d).length ≤ 274877906944) (hd : d ≠ 0) (uv : US .u32 h.ob (li n) v) (uw : US .u32 h.ob (li d) w)
    (hq : ∀ h', Ext h h' → Q (er (rq neg n d)) h') : YC Tryz.prog B0 103 [.bool neg, v, w] Q h := by
  refine enterF mix Tryz.func103 ok103 rfl (tm := [(0, _), (1, _), (2, _)]) (bx := [_, _]) rfl rfl fun hp => ?_
  by_cases hn : n = 0
  · subst hn
    have hl0 : (li 0).length = 0 := by rw [li_zero]; rfl
    have e : er (rq neg 0 d) = rat false ⟨#[]⟩ ⟨#[]⟩ := by rw [rq_zero, er_zero]; rfl
    rw [e] at hq
    repeat' first | (with_reducible first | exact SetAt.z | apply SetAt.s | apply s_end | exact Kept.nil) | refine qq (hk := ?_) | ((with_reducible first | apply Kept.cons | apply q_blky); rfl) | ((with_reducible apply Kept.skip); rfl) | refine wq (hk := ?_) | (apply c_condP; rfl; exact bpx; all_goals intro hc) | ((first | apply s_gTP | apply s_gFP); rfl; exact bpx; all_goals intro hg) | (apply s_lalloc; rfl) | ((first | apply s_lbox | apply s_lstoreR); rfl; rfl; rfl) | (apply s_lstore; rfl; rfl; rfl; rfl; rfl) | (apply s_callB (hm := YC.m _ _); rfl; intro h3 o3 b3)
    exact hq _ exty
  · have hl0 : 0 < (li n).length := List.length_pos_iff.mpr (by rw [Ne, li_nil]; exact hn)
    have hg0 : 0 < Nat.gcd n d := Nat.gcd_pos_of_pos_left _ (by omega)
    have LG : (li (Nat.gcd n d)).length ≤ 274877906944 := Nat.le_trans (li_mono (Nat.gcd_le_right _ (by omega))) L2
    rw [er_rq' hd hn] at hq
    have hdg : d / Nat.gcd n d ≠ 0 := by
      have := Nat.div_pos (Nat.le_of_dvd (by omega) (Nat.gcd_dvd_right n d)) hg0
      omega
    have L3 : (li (n / Nat.gcd n d)).length ≤ 274877906944 := Nat.le_trans (li_mono (Nat.div_le_self _ _)) L1
    have L4 : (li (d / Nat.gcd n d)).length ≤ 274877906944 := Nat.le_trans (li_mono (Nat.div_le_self _ _)) L2
    repeat' first | (with_reducible first | exact SetAt.z | apply SetAt.s | apply s_end | exact Kept.nil) | refine qq (hk := ?_) | ((with_reducible first | apply Kept.cons | apply q_blky); rfl) | ((with_reducible apply Kept.skip); rfl) | refine wq (hk := ?_) | (apply c_condP; rfl; exact bpx; all_goals intro hc) | ((first | apply s_gTP | apply s_gFP); rfl; exact bpx; all_goals intro hg) | (apply s_lalloc; rfl) | ((first | apply s_lbox | apply s_lstoreR); rfl; rfl; rfl) | (apply s_lstore; rfl; rfl; rfl; rfl; rfl) | (apply s_callB (hm := YC.m _ _); rfl; intro h3 o3 b3)
    refine k125 L1 L2 uv uw fun v1 h1 e1 u1 => ?_
    have uv1 := uv.ext e1
    have uw1 := uw.ext e1
    by_cases hg1 : Nat.gcd n d = 1
    · rw [hg1, Nat.div_one, Nat.div_one] at hq
      have hll : (li (Nat.gcd n d)).length = 1 := by rw [hg1, li_one]; rfl
      have hge : (li (Nat.gcd n d)).getD (Int.toNat 0) 0 = 1 := by rw [hg1, li_one]; rfl
      have hc1 : ¬ (li (Nat.gcd n d)).length > 1 := by omega
      repeat' first | (with_reducible first | exact SetAt.z | apply SetAt.s | apply s_end | exact Kept.nil) | refine qq (hk := ?_) | ((with_reducible first | apply Kept.cons | apply q_blky); rfl) | ((with_reducible apply Kept.skip); rfl) | (apply s_q; rfl; (first | ((with_reducible apply q_ldE); rfl; assumption; omega; exact hge))) | refine wq (hk := ?_) | (apply c_condP; rfl; exact bpx; all_goals intro hc) | ((first | apply s_gTP | apply s_gFP); rfl; exact bpx; all_goals intro hg) | (apply s_lalloc; rfl) | ((first | apply s_lbox | apply s_lstoreR); rfl; rfl; rfl) | (apply s_lstore; rfl; rfl; rfl; rfl; rfl) | (apply s_callB (hm := YC.m _ _); rfl; intro h3 o3 b3)
      refine k107 (li_in _) (by omega) uv1 fun h2 e2 => ?_
      have uw2 := TS.ext e2 uw1
      by_cases hd1 : d = 1
      · have hl1 : (li (d)).length = 1 := by rw [hd1, li_one]; rfl
        have he1 : (li (d)).getD (Int.toNat 0) 0 = 1 := by rw [hd1, li_one]; rfl
        repeat' first | (with_reducible first | exact SetAt.z | apply SetAt.s | apply s_end | exact Kept.nil) | refine qq (hk := ?_) | ((with_reducible first | apply Kept.cons | apply q_blky); rfl) | ((with_reducible apply Kept.skip); rfl) | (apply s_q; rfl; (first | ((with_reducible apply q_ldE); rfl; assumption; omega; exact he1))) | refine wq (hk := ?_) | (apply c_condP; rfl; exact bpx; all_goals intro hc) | ((first | apply s_gTP | apply s_gFP); rfl; exact bpx; all_goals intro hg) | (apply s_lalloc; rfl) | ((first | apply s_lbox | apply s_lstoreR); rfl; rfl; rfl) | (apply s_lstore; rfl; rfl; rfl; rfl; rfl) | (apply s_callB (hm := YC.m _ _); rfl; intro h3 o3 b3)
        rw [lv_li_nat]
        have e : strD (d) = [] := by unfold strD; rw [if_pos hd1]
        rw [e] at hq
        exact hq _ exty
      · have e : strD (d) = sb (d) := by unfold strD; rw [if_neg hd1]
        rw [e] at hq
        rcases big_cases hd hd1 with hb | ⟨hb1, hb2, hb3⟩
        · repeat' first | (with_reducible first | exact SetAt.z | apply SetAt.s | apply s_end | exact Kept.nil) | refine qq (hk := ?_) | ((with_reducible first | apply Kept.cons | apply q_blky); rfl) | ((with_reducible apply Kept.skip); rfl) | refine wq (hk := ?_) | (apply c_condP; rfl; exact bpx; all_goals intro hc) | ((first | apply s_gTP | apply s_gFP); rfl; exact bpx; all_goals intro hg) | (apply s_lalloc; rfl) | ((first | apply s_lbox | apply s_lstoreR); rfl; rfl; rfl) | (apply s_lstore; rfl; rfl; rfl; rfl; rfl) | (apply s_callB (hm := YC.m _ _); rfl; intro h3 o3 b3) | ((with_reducible refine YCi (f := 107) ?_); (refine k107 (li_in _) (by omega) uw2 fun h3 e3 => ?_))
          rw [lv_li_nat, lv_li_nat]
          exact hq _ exty
        · repeat' first | (with_reducible first | exact SetAt.z | apply SetAt.s | apply s_end | exact Kept.nil) | refine qq (hk := ?_) | ((with_reducible first | apply Kept.cons | apply q_blky); rfl) | ((with_reducible apply Kept.skip); rfl) | refine wq (hk := ?_) | (apply c_condP; rfl; exact bpx; all_goals intro hc) | ((first | apply s_gTP | apply s_gFP); rfl; exact bpx; all_goals intro hg) | (apply s_lalloc; rfl) | ((first | apply s_lbox | apply s_lstoreR); rfl; rfl; rfl) | (apply s_lstore; rfl; rfl; rfl; rfl; rfl) | (apply s_callB (hm := YC.m _ _); rfl; intro h3 o3 b3) | ((with_reducible refine YCi (f := 107) ?_); (refine k107 (li_in _) (by omega) uw2 fun h3 e3 => ?_))
          rw [lv_li_nat, lv_li_nat]
          exact hq _ exty
    · rcases big_cases (by omega) hg1 with hb | ⟨hb1, hb2, hb3⟩
      · repeat' first | (with_reducible first | exact SetAt.z | apply SetAt.s | apply s_end | exact Kept.nil) | refine qq (hk := ?_) | ((with_reducible first | apply Kept.cons | apply q_blky); rfl) | ((with_reducible apply Kept.skip); rfl) | refine wq (hk := ?_) | (apply c_condP; rfl; exact bpx; all_goals intro hc) | ((first | apply s_gTP | apply s_gFP); rfl; exact bpx; all_goals intro hg) | (apply s_lalloc; rfl) | ((first | apply s_lbox | apply s_lstoreR); rfl; rfl; rfl) | (apply s_lstore; rfl; rfl; rfl; rfl; rfl) | (apply s_callB (hm := YC.m _ _); rfl; intro h3 o3 b3)
        refine k126 L1 LG hg0 uv1 u1 fun vn r1 h4 e4 un ur => ?_
        have uw4 := TS.ext e4 uw1
        have u4 := TS.ext e4 u1
        repeat' first | (with_reducible first | exact SetAt.z | apply SetAt.s | apply s_end | exact Kept.nil) | refine qq (hk := ?_) | ((with_reducible first | apply Kept.cons | apply q_blky); rfl) | ((with_reducible apply Kept.skip); rfl) | refine wq (hk := ?_) | (apply c_condP; rfl; exact bpx; all_goals intro hc) | ((first | apply s_gTP | apply s_gFP); rfl; exact bpx; all_goals intro hg) | (apply s_lalloc; rfl) | ((first | apply s_lbox | apply s_lstoreR); rfl; rfl; rfl) | (apply s_lstore; rfl; rfl; rfl; rfl; rfl) | (apply s_callB (hm := YC.m _ _); rfl; intro h3 o3 b3)
        refine k126 L2 LG hg0 uw4 u4 fun vd r2 h5 e5 ud ur2 => ?_
        have un5 := TS.ext e5 un
        repeat' first | (with_reducible first | exact SetAt.z | apply SetAt.s | apply s_end | exact Kept.nil) | refine qq (hk := ?_) | ((with_reducible first | apply Kept.cons | apply q_blky); rfl) | ((with_reducible apply Kept.skip); rfl) | refine wq (hk := ?_) | (apply c_condP; rfl; exact bpx; all_goals intro hc) | ((first | apply s_gTP | apply s_gFP); rfl; exact bpx; all_goals intro hg) | (apply s_lalloc; rfl) | ((first | apply s_lbox | apply s_lstoreR); rfl; rfl; rfl) | (apply s_lstore; rfl; rfl; rfl; rfl; rfl) | (apply s_callB (hm := YC.m _ _); rfl; intro h3 o3 b3)
        refine k107 (li_in _) L3 un5 fun h2 e2 => ?_
        have uw2 := TS.ext e2 ud
        by_cases hd1 : d / Nat.gcd n d = 1
        · have hl1 : (li (d / Nat.gcd n d)).length = 1 := by rw [hd1, li_one]; rfl
          have he1 : (li (d / Nat.gcd n d)).getD (Int.toNat 0) 0 = 1 := by rw [hd1, li_one]; rfl
          repeat' first | (with_reducible first | exact SetAt.z | apply SetAt.s | apply s_end | exact Kept.nil) | refine qq (hk := ?_) | ((with_reducible first | apply Kept.cons | apply q_blky); rfl) | ((with_reducible apply Kept.skip); rfl) | (apply s_q; rfl; (first | ((with_reducible apply q_ldE); rfl; assumption; omega; exact he1))) | refine wq (hk := ?_) | (apply c_condP; rfl; exact bpx; all_goals intro hc) | ((first | apply s_gTP | apply s_gFP); rfl; exact bpx; all_goals intro hg) | (apply s_lalloc; rfl) | ((first | apply s_lbox | apply s_lstoreR); rfl; rfl; rfl) | (apply s_lstore; rfl; rfl; rfl; rfl; rfl) | (apply s_callB (hm := YC.m _ _); rfl; intro h3 o3 b3)
          rw [lv_li_nat]
          have e : strD (d / Nat.gcd n d) = [] := by unfold strD; rw [if_pos hd1]
          rw [e] at hq
          exact hq _ exty
        · have e : strD (d / Nat.gcd n d) = sb (d / Nat.gcd n d) := by unfold strD; rw [if_neg hd1]
          rw [e] at hq
          rcases big_cases hdg hd1 with hb | ⟨hb1, hb2, hb3⟩
          · repeat' first | (with_reducible first | exact SetAt.z | apply SetAt.s | apply s_end | exact Kept.nil) | refine qq (hk := ?_) | ((with_reducible first | apply Kept.cons | apply q_blky); rfl) | ((with_reducible apply Kept.skip); rfl) | refine wq (hk := ?_) | (apply c_condP; rfl; exact bpx; all_goals intro hc) | ((first | apply s_gTP | apply s_gFP); rfl; exact bpx; all_goals intro hg) | (apply s_lalloc; rfl) | ((first | apply s_lbox | apply s_lstoreR); rfl; rfl; rfl) | (apply s_lstore; rfl; rfl; rfl; rfl; rfl) | (apply s_callB (hm := YC.m _ _); rfl; intro h3 o3 b3) | ((with_reducible refine YCi (f := 107) ?_); (refine k107 (li_in _) L4 uw2 fun h3 e3 => ?_))
            rw [lv_li_nat, lv_li_nat]
            exact hq _ exty
          · repeat' first | (with_reducible first | exact SetAt.z | apply SetAt.s | apply s_end | exact Kept.nil) | refine qq (hk := ?_) | ((with_reducible first | apply Kept.cons | apply q_blky); rfl) | ((with_reducible apply Kept.skip); rfl) | refine wq (hk := ?_) | (apply c_condP; rfl; exact bpx; all_goals intro hc) | ((first | apply s_gTP | apply s_gFP); rfl; exact bpx; all_goals intro hg) | (apply s_lalloc; rfl) | ((first | apply s_lbox | apply s_lstoreR); rfl; rfl; rfl) | (apply s_lstore; rfl; rfl; rfl; rfl; rfl) | (apply s_callB (hm := YC.m _ _); rfl; intro h3 o3 b3) | ((with_reducible refine YCi (f := 107) ?_); (refine k107 (li_in _) L4 uw2 fun h3 e3 => ?_))
            rw [lv_li_nat, lv_li_nat]
            exact hq _ exty
      · repeat' first | (with_reducible first | exact SetAt.z | apply SetAt.s | apply s_end | exact Kept.nil) | refine qq (hk := ?_) | ((with_reducible first | apply Kept.cons | apply q_blky); rfl) | ((with_reducible apply Kept.skip); rfl) | refine wq (hk := ?_) | (apply c_condP; rfl; exact bpx; all_goals intro hc) | ((first | apply s_gTP | apply s_gFP); rfl; exact bpx; all_goals intro hg) | (apply s_lalloc; rfl) | ((first | apply s_lbox | apply s_lstoreR); rfl; rfl; rfl) | (apply s_lstore; rfl; rfl; rfl; rfl; rfl) | (apply s_callB (hm := YC.m _ _); rfl; intro h3 o3 b3)
        refine k126 L1 LG hg0 uv1 u1 fun vn r1 h4 e4 un ur => ?_
        have uw4 := TS.ext e4 uw1
        have u4 := TS.ext e4 u1
        repeat' first | (with_reducible first | exact SetAt.z | apply SetAt.s | apply s_end | exact Kept.nil) | refine qq (hk := ?_) | ((with_reducible first | apply Kept.cons | apply q_blky); rfl) | ((with_reducible apply Kept.skip); rfl) | refine wq (hk := ?_) | (apply c_condP; rfl; exact bpx; all_goals intro hc) | ((first | apply s_gTP | apply s_gFP); rfl; exact bpx; all_goals intro hg) | (apply s_lalloc; rfl) | ((first | apply s_lbox | apply s_lstoreR); rfl; rfl; rfl) | (apply s_lstore; rfl; rfl; rfl; rfl; rfl) | (apply s_callB (hm := YC.m _ _); rfl; intro h3 o3 b3)
        refine k126 L2 LG hg0 uw4 u4 fun vd r2 h5 e5 ud ur2 => ?_
        have un5 := TS.ext e5 un
        repeat' first | (with_reducible first | exact SetAt.z | apply SetAt.s | apply s_end | exact Kept.nil) | refine qq (hk := ?_) | ((with_reducible first | apply Kept.cons | apply q_blky); rfl) | ((with_reducible apply Kept.skip); rfl) | refine wq (hk := ?_) | (apply c_condP; rfl; exact bpx; all_goals intro hc) | ((first | apply s_gTP | apply s_gFP); rfl; exact bpx; all_goals intro hg) | (apply s_lalloc; rfl) | ((first | apply s_lbox | apply s_lstoreR); rfl; rfl; rfl) | (apply s_lstore; rfl; rfl; rfl; rfl; rfl) | (apply s_callB (hm := YC.m _ _); rfl; intro h3 o3 b3)
        refine k107 (li_in _) L3 un5 fun h2 e2 => ?_
        have uw2 := TS.ext e2 ud
        by_cases hd1 : d / Nat.gcd n d = 1
        · have hl1 : (li (d / Nat.gcd n d)).length = 1 := by rw [hd1, li_one]; rfl
          have he1 : (li (d / Nat.gcd n d)).getD (Int.toNat 0) 0 = 1 := by rw [hd1, li_one]; rfl
          repeat' first | (with_reducible first | exact SetAt.z | apply SetAt.s | apply s_end | exact Kept.nil) | refine qq (hk := ?_) | ((with_reducible first | apply Kept.cons | apply q_blky); rfl) | ((with_reducible apply Kept.skip); rfl) | (apply s_q; rfl; (first | ((with_reducible apply q_ldE); rfl; assumption; omega; exact he1))) | refine wq (hk := ?_) | (apply c_condP; rfl; exact bpx; all_goals intro hc) | ((first | apply s_gTP | apply s_gFP); rfl; exact bpx; all_goals intro hg) | (apply s_lalloc; rfl) | ((first | apply s_lbox | apply s_lstoreR); rfl; rfl; rfl) | (apply s_lstore; rfl; rfl; rfl; rfl; rfl) | (apply s_callB (hm := YC.m _ _); rfl; intro h3 o3 b3)
          rw [lv_li_nat]
          have e : strD (d / Nat.gcd n d) = [] := by unfold strD; rw [if_pos hd1]
          rw [e] at hq
          exact hq _ exty
        · have e : strD (d / Nat.gcd n d) = sb (d / Nat.gcd n d) := by unfold strD; rw [if_neg hd1]
          rw [e] at hq
          rcases big_cases hdg hd1 with hb | ⟨hb1, hb2, hb3⟩
          · repeat' first | (with_reducible first | exact SetAt.z | apply SetAt.s | apply s_end | exact Kept.nil) | refine qq (hk := ?_) | ((with_reducible first | apply Kept.cons | apply q_blky); rfl) | ((with_reducible apply Kept.skip); rfl) | refine wq (hk := ?_) | (apply c_condP; rfl; exact bpx; all_goals intro hc) | ((first | apply s_gTP | apply s_gFP); rfl; exact bpx; all_goals intro hg) | (apply s_lalloc; rfl) | ((first | apply s_lbox | apply s_lstoreR); rfl; rfl; rfl) | (apply s_lstore; rfl; rfl; rfl; rfl; rfl) | (apply s_callB (hm := YC.m _ _); rfl; intro h3 o3 b3) | ((with_reducible refine YCi (f := 107) ?_); (refine k107 (li_in _) L4 uw2 fun h3 e3 => ?_))
            rw [lv_li_nat, lv_li_nat]
            exact hq _ exty
          · repeat' first | (with_reducible first | exact SetAt.z | apply SetAt.s | apply s_end | exact Kept.nil) | refine qq (hk := ?_) | ((with_reducible first | apply Kept.cons | apply q_blky); rfl) | ((with_reducible apply Kept.skip); rfl) | refine wq (hk := ?_) | (apply c_condP; rfl; exact bpx; all_goals intro hc) | ((first | apply s_gTP | apply s_gFP); rfl; exact bpx; all_goals intro hg) | (apply s_lalloc; rfl) | ((first | apply s_lbox | apply s_lstoreR); rfl; rfl; rfl) | (apply s_lstore; rfl; rfl; rfl; rfl; rfl) | (apply s_callB (hm := YC.m _ _); rfl; intro h3 o3 b3) | ((with_reducible refine YCi (f := 107) ?_); (refine k107 (li_in _) L4 uw2 fun h3 e3 => ?_))
            rw [lv_li_nat, lv_li_nat]
            exact hq _ exty
theorem k40 (hq : Q (er 1) h) : YC Tryz.prog B0 40 [] Q h := by
  refine enterF mix Tryz.func40 ok40 rfl (tm := []) (bx := [_]) rfl rfl fun hp => ?_
  have e : er 1 = rat false ⟨#[1]⟩ ⟨#[]⟩ := by
    have h1 : ((1 : Rat).num.natAbs) = 1 := rfl
    have h2 : (1 : Rat).den = 1 := rfl
    rw [er, h1, h2, sb_one]
    rfl
  rw [e] at hq
  repeat' first | (with_reducible first | exact SetAt.z | apply SetAt.s | apply s_end | exact Kept.nil) | refine qq (hk := ?_) | ((with_reducible first | apply Kept.cons | apply q_blky); rfl) | ((with_reducible apply Kept.skip); rfl) | refine wq (hk := ?_) | (apply c_condP; rfl; exact bpx; all_goals intro hc) | ((first | apply s_gTP | apply s_gFP); rfl; exact bpx; all_goals intro hg) | (apply s_lalloc; rfl) | ((first | apply s_lbox | apply s_lstoreR); rfl; rfl; rfl) | (apply s_lstore; rfl; rfl; rfl; rfl; rfl) | (apply s_callB (hm := YC.m _ _); rfl; intro h3 o3 b3)
  exact hq
theorem k76 {q : Rat} (hq : Q (er (-q)) h) : YC Tryz.prog B0 76 [er q] Q h := by
  refine enterF mix Tryz.func76 ok76 rfl (tm := [(0, _)]) (bx := [_, _]) rfl rfl fun hp => ?_
  have e : er (-q) = rat (decide (-q.num < 0)) (bs (sb q.num.natAbs)) (bs (strD q.den)) := by
    rw [er, Rat.neg_num, Rat.neg_den, Int.natAbs_neg]
  rw [e] at hq
  by_cases h0 : sb q.num.natAbs = []
  · have hc : ¬ ¬ sb q.num.natAbs = [] := fun n => n h0
    repeat' first | (with_reducible first | exact SetAt.z | apply SetAt.s | apply s_end | exact Kept.nil) | refine qq (hk := ?_) | ((with_reducible first | apply Kept.cons | apply q_blky); rfl) | ((with_reducible apply Kept.skip); rfl) | refine wq (hk := ?_) | (apply c_condP; rfl; exact bpx; all_goals intro hc) | ((first | apply s_gTP | apply s_gFP); rfl; exact bpx; all_goals intro hg) | (apply s_lalloc; rfl) | ((first | apply s_lbox | apply s_lstoreR); rfl; rfl; rfl) | (apply s_lstore; rfl; rfl; rfl; rfl; rfl) | (apply s_callB (hm := YC.m _ _); rfl; intro h3 o3 b3)
    have hn : q.num = 0 := by rw [sb_nil] at h0; omega
    rw [hn] at hq ⊢
    exact hq
  · repeat' first | (with_reducible first | exact SetAt.z | apply SetAt.s | apply s_end | exact Kept.nil) | refine qq (hk := ?_) | ((with_reducible first | apply Kept.cons | apply q_blky); rfl) | ((with_reducible apply Kept.skip); rfl) | refine wq (hk := ?_) | (apply c_condP; rfl; exact bpx; all_goals intro hc) | ((first | apply s_gTP | apply s_gFP); rfl; exact bpx; all_goals intro hg) | (apply s_lalloc; rfl) | ((first | apply s_lbox | apply s_lstoreR); rfl; rfl; rfl) | (apply s_lstore; rfl; rfl; rfl; rfl; rfl) | (apply s_callB (hm := YC.m _ _); rfl; intro h3 o3 b3)
    have hn : q.num ≠ 0 := by rw [sb_nil] at h0; omega
    have : (!decide (q.num < 0)) = decide (-q.num < 0) := by
      by_cases h1 : q.num < 0
      · have : ¬ -q.num < 0 := by omega
        rw [decide_eq_true h1, decide_eq_false this]; rfl
      · have : -q.num < 0 := by omega
        rw [decide_eq_false h1, decide_eq_true this]; rfl
    rw [← this] at hq
    exact hq
end
end Am
end Go.Proofs.YtfhlblclcdhbiaaGreatDoor

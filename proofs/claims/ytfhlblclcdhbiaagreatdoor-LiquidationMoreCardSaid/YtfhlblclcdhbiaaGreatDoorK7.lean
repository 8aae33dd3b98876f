/- The natural numbers' outer functions. -/
import Derived.Test.YtfhlblclcdhbiaaGreatDoorK6
namespace Go.Proofs.YtfhlblclcdhbiaaGreatDoor
open Go
set_option linter.unusedVariables false
set_option linter.unusedSimpArgs false
namespace Am
section
variable {B0 : Nat} {Q : Value → AH → Prop} {h : AH}
theorem li_bv_len (l : List UInt8) : (li (bv l)).length ≤ l.length := by
  refine li_len ?_
  have h1 := bv_lt l
  have h2 : (256 : Nat) ^ l.length ≤ 4294967296 ^ l.length := Nat.pow_le_pow_left (by decide) _
  have h3 : ((bv l : Nat) : Int) < ((4294967296 ^ l.length : Nat) : Int) := by omega
  rw [Int.natCast_pow] at h3
  exact h3
theorem lv_li_nat (n : Nat) : (lv (li n)).toNat = n := by rw [lv_li, Int.toNat_natCast]
theorem k98 {l m : List UInt8} (hl : l.length ≤ 274877906944) (hm : m.length ≤ 274877906944) (hq : ∀ h', Ext h h' → Q (.string (bs (sb (Nat.gcd (bv l) (bv m))))) h') : YC Tryz.prog B0 98 [.string (bs l), .string (bs m)] Q h := by
  refine enterF mix Tryz.func98 ok98 rfl (tm := [(0, _), (1, _)]) (bx := []) rfl rfl fun hp => ?_
  repeat' first | (with_reducible first | exact SetAt.z | apply SetAt.s | apply s_end | exact Kept.nil) | refine qq (hk := ?_) | ((with_reducible first | apply Kept.cons | apply q_blky); rfl) | ((with_reducible apply Kept.skip); rfl) | refine ww (hk := ?_) | (apply c_condP; rfl; exact bpx; all_goals intro hc) | ((first | apply s_gTP | apply s_gFP); rfl; exact bpx; all_goals intro hg) | (apply s_lalloc; rfl) | ((first | apply s_lbox); rfl; rfl; rfl) | (apply s_lstore; rfl; rfl; rfl; rfl; rfl) | (apply s_callB (hm := YC.m _ _); rfl; intro h3 o3 b3)
  refine k115 (by omega) fun v1 h1 e1 u1 => ?_
  repeat' first | (with_reducible first | exact SetAt.z | apply SetAt.s | apply s_end | exact Kept.nil) | refine qq (hk := ?_) | ((with_reducible first | apply Kept.cons | apply q_blky); rfl) | ((with_reducible apply Kept.skip); rfl) | refine ww (hk := ?_) | (apply c_condP; rfl; exact bpx; all_goals intro hc) | ((first | apply s_gTP | apply s_gFP); rfl; exact bpx; all_goals intro hg) | (apply s_lalloc; rfl) | ((first | apply s_lbox); rfl; rfl; rfl) | (apply s_lstore; rfl; rfl; rfl; rfl; rfl) | (apply s_callB (hm := YC.m _ _); rfl; intro h3 o3 b3)
  refine k115 (by omega) fun v2 h2 e2 u2 => ?_
  have u1' := u1.ext e2
  repeat' first | (with_reducible first | exact SetAt.z | apply SetAt.s | apply s_end | exact Kept.nil) | refine qq (hk := ?_) | ((with_reducible first | apply Kept.cons | apply q_blky); rfl) | ((with_reducible apply Kept.skip); rfl) | refine ww (hk := ?_) | (apply c_condP; rfl; exact bpx; all_goals intro hc) | ((first | apply s_gTP | apply s_gFP); rfl; exact bpx; all_goals intro hg) | (apply s_lalloc; rfl) | ((first | apply s_lbox); rfl; rfl; rfl) | (apply s_lstore; rfl; rfl; rfl; rfl; rfl) | (apply s_callB (hm := YC.m _ _); rfl; intro h3 o3 b3)
  have L1 := li_bv_len l
  have L2 := li_bv_len m
  refine loopI (YC.m _ _) (fun n fr h' => ∃ (x : Nat) (v w : Value) (ex : List (Nat × TV)), Ext h h' ∧ Nat.gcd x n = Nat.gcd (bv l) (bv m) ∧ (li x).length ≤ 274877906944 ∧ (li n).length ≤ 274877906944 ∧ US .u32 h'.ob (li x) v ∧ US .u32 h'.ob (li n) w ∧ fr = ⟨(5, .v v) :: (6, .v w) :: ex, []⟩) (bv m)
    ⟨bv l, v1, v2, [], e1.trans e2, rfl, by omega, by omega, u1', u2, rfl⟩ ?_
  rintro n fr h' ⟨x, v, w, ex, e, hg, hx, hn, uv, uw, rfl⟩
  by_cases hn0 : n = 0
  · subst hn0
    have hl0 : (li 0).length = 0 := by rw [li_zero]; rfl
    repeat' first | (with_reducible first | exact SetAt.z | apply SetAt.s | apply s_end | exact Kept.nil) | refine qq (hk := ?_) | ((with_reducible first | apply Kept.cons | apply q_blky); rfl) | ((with_reducible apply Kept.skip); rfl) | refine ww (hk := ?_) | (apply c_condP; rfl; exact bpx; all_goals intro hc) | ((first | apply s_gTP | apply s_gFP); rfl; exact bpx; all_goals intro hg) | (apply s_lalloc; rfl) | ((first | apply s_lbox); rfl; rfl; rfl) | (apply s_lstore; rfl; rfl; rfl; rfl; rfl) | (apply s_callB (hm := YC.m _ _); rfl; intro h3 o3 b3)
    refine k116 (li_in x) (by omega) uv fun h3 e3 => ?_
    repeat' first | (with_reducible first | exact SetAt.z | apply SetAt.s | apply s_end | exact Kept.nil) | refine qq (hk := ?_) | ((with_reducible first | apply Kept.cons | apply q_blky); rfl) | ((with_reducible apply Kept.skip); rfl) | refine ww (hk := ?_) | (apply c_condP; rfl; exact bpx; all_goals intro hc) | ((first | apply s_gTP | apply s_gFP); rfl; exact bpx; all_goals intro hg) | (apply s_lalloc; rfl) | ((first | apply s_lbox); rfl; rfl; rfl) | (apply s_lstore; rfl; rfl; rfl; rfl; rfl) | (apply s_callB (hm := YC.m _ _); rfl; intro h3 o3 b3)
    rw [lv_li_nat]
    rw [Nat.gcd_zero_right] at hg
    rw [hg]
    exact hq _ (e.trans e3)
  · have hl0 : 0 < (li n).length := List.length_pos_iff.mpr (by rw [Ne, li_nil]; exact hn0)
    repeat' first | (with_reducible first | exact SetAt.z | apply SetAt.s | apply s_end | exact Kept.nil) | refine qq (hk := ?_) | ((with_reducible first | apply Kept.cons | apply q_blky); rfl) | ((with_reducible apply Kept.skip); rfl) | refine ww (hk := ?_) | (apply c_condP; rfl; exact bpx; all_goals intro hc) | ((first | apply s_gTP | apply s_gFP); rfl; exact bpx; all_goals intro hg) | (apply s_lalloc; rfl) | ((first | apply s_lbox); rfl; rfl; rfl) | (apply s_lstore; rfl; rfl; rfl; rfl; rfl) | (apply s_callB (hm := YC.m _ _); rfl; intro h3 o3 b3)
    refine k124 (by omega) (by omega) (by omega) uv uw fun v' w' h3 e3 hv' hw' => ?_
    have uw3 := uw.ext e3
    repeat' first | (with_reducible first | exact SetAt.z | apply SetAt.s | apply s_end | exact Kept.nil) | refine qq (hk := ?_) | ((with_reducible first | apply Kept.cons | apply q_blky); rfl) | ((with_reducible apply Kept.skip); rfl) | refine ww (hk := ?_) | (apply c_condP; rfl; exact bpx; all_goals intro hc) | ((first | apply s_gTP | apply s_gFP); rfl; exact bpx; all_goals intro hg) | (apply s_lalloc; rfl) | ((first | apply s_lbox); rfl; rfl; rfl) | (apply s_lstore; rfl; rfl; rfl; rfl; rfl) | (apply s_callB (hm := YC.m _ _); rfl; intro h3 o3 b3)
    refine q_seql (m := x % n) (Nat.mod_lt _ (by omega)) ⟨n, w, w', _, e.trans e3, ?_, hn, ?_, uw3, hw', rfl⟩
    · rw [← hg, Nat.gcd_comm x n, Nat.gcd_rec n x, Nat.gcd_comm]
    · exact Nat.le_trans (li_mono (Nat.le_of_lt (Nat.mod_lt x (by omega)))) hn
theorem k99 {l m : List UInt8} (hl : l.length ≤ 274877906944) (hm : m.length ≤ 274877906944) (h0 : bv m ≠ 0) (hq : ∀ h', Ext h h' → Q (.tuple #[.string (bs (sb (bv l / bv m))), .string (bs (sb (bv l % bv m))), .bool true]) h') : YC Tryz.prog B0 99 [.string (bs l), .string (bs m)] Q h := by
  refine enterF mix Tryz.func99 ok99 rfl (tm := [(0, _), (1, _)]) (bx := []) rfl rfl fun hp => ?_
  have L1 := li_bv_len l
  have L2 := li_bv_len m
  have hl0 : 0 < (li (bv m)).length := List.length_pos_iff.mpr (by rw [Ne, li_nil]; exact h0)
  repeat' first | (with_reducible first | exact SetAt.z | apply SetAt.s | apply s_end | exact Kept.nil) | refine qq (hk := ?_) | ((with_reducible first | apply Kept.cons | apply q_blky); rfl) | ((with_reducible apply Kept.skip); rfl) | refine ww (hk := ?_) | (apply c_condP; rfl; exact bpx; all_goals intro hc) | ((first | apply s_gTP | apply s_gFP); rfl; exact bpx; all_goals intro hg) | (apply s_lalloc; rfl) | ((first | apply s_lbox); rfl; rfl; rfl) | (apply s_lstore; rfl; rfl; rfl; rfl; rfl) | (apply s_callB (hm := YC.m _ _); rfl; intro h3 o3 b3)
  refine k115 (by omega) fun v1 h1 e1 u1 => ?_
  repeat' first | (with_reducible first | exact SetAt.z | apply SetAt.s | apply s_end | exact Kept.nil) | refine qq (hk := ?_) | ((with_reducible first | apply Kept.cons | apply q_blky); rfl) | ((with_reducible apply Kept.skip); rfl) | refine ww (hk := ?_) | (apply c_condP; rfl; exact bpx; all_goals intro hc) | ((first | apply s_gTP | apply s_gFP); rfl; exact bpx; all_goals intro hg) | (apply s_lalloc; rfl) | ((first | apply s_lbox); rfl; rfl; rfl) | (apply s_lstore; rfl; rfl; rfl; rfl; rfl) | (apply s_callB (hm := YC.m _ _); rfl; intro h3 o3 b3)
  refine k115 (by omega) fun v2 h2 e2 u2 => ?_
  have u1' := u1.ext e2
  repeat' first | (with_reducible first | exact SetAt.z | apply SetAt.s | apply s_end | exact Kept.nil) | refine qq (hk := ?_) | ((with_reducible first | apply Kept.cons | apply q_blky); rfl) | ((with_reducible apply Kept.skip); rfl) | refine ww (hk := ?_) | (apply c_condP; rfl; exact bpx; all_goals intro hc) | ((first | apply s_gTP | apply s_gFP); rfl; exact bpx; all_goals intro hg) | (apply s_lalloc; rfl) | ((first | apply s_lbox); rfl; rfl; rfl) | (apply s_lstore; rfl; rfl; rfl; rfl; rfl) | (apply s_callB (hm := YC.m _ _); rfl; intro h3 o3 b3)
  refine k124 (by omega) (by omega) (by omega) u2 u1' fun v' w' h3 e3 hv' hw' => ?_
  repeat' first | (with_reducible first | exact SetAt.z | apply SetAt.s | apply s_end | exact Kept.nil) | refine qq (hk := ?_) | ((with_reducible first | apply Kept.cons | apply q_blky); rfl) | ((with_reducible apply Kept.skip); rfl) | refine ww (hk := ?_) | (apply c_condP; rfl; exact bpx; all_goals intro hc) | ((first | apply s_gTP | apply s_gFP); rfl; exact bpx; all_goals intro hg) | (apply s_lalloc; rfl) | ((first | apply s_lbox); rfl; rfl; rfl) | (apply s_lstore; rfl; rfl; rfl; rfl; rfl) | (apply s_callB (hm := YC.m _ _); rfl; intro h3 o3 b3)
  have L3 : (li (bv l / bv m)).length ≤ (li (bv l)).length := li_mono (Nat.div_le_self _ _)
  have L4 : (li (bv l % bv m)).length ≤ (li (bv l)).length := li_mono (Nat.mod_le _ _)
  refine k116 (li_in _) (by omega) hv' fun h4 e4 => ?_
  have hw4 := hw'.ext e4
  repeat' first | (with_reducible first | exact SetAt.z | apply SetAt.s | apply s_end | exact Kept.nil) | refine qq (hk := ?_) | ((with_reducible first | apply Kept.cons | apply q_blky); rfl) | ((with_reducible apply Kept.skip); rfl) | refine ww (hk := ?_) | (apply c_condP; rfl; exact bpx; all_goals intro hc) | ((first | apply s_gTP | apply s_gFP); rfl; exact bpx; all_goals intro hg) | (apply s_lalloc; rfl) | ((first | apply s_lbox); rfl; rfl; rfl) | (apply s_lstore; rfl; rfl; rfl; rfl; rfl) | (apply s_callB (hm := YC.m _ _); rfl; intro h3 o3 b3)
  refine k116 (li_in _) (by omega) hw4 fun h5 e5 => ?_
  repeat' first | (with_reducible first | exact SetAt.z | apply SetAt.s | apply s_end | exact Kept.nil) | refine qq (hk := ?_) | ((with_reducible first | apply Kept.cons | apply q_blky); rfl) | ((with_reducible apply Kept.skip); rfl) | refine ww (hk := ?_) | (apply c_condP; rfl; exact bpx; all_goals intro hc) | ((first | apply s_gTP | apply s_gFP); rfl; exact bpx; all_goals intro hg) | (apply s_lalloc; rfl) | ((first | apply s_lbox); rfl; rfl; rfl) | (apply s_lstore; rfl; rfl; rfl; rfl; rfl) | (apply s_callB (hm := YC.m _ _); rfl; intro h3 o3 b3)
  rw [lv_li_nat, lv_li_nat]
  exact hq _ ((((e1.trans e2).trans e3).trans e4).trans e5)
/-- natural.FromUint -/
theorem k100 {u : Nat} (hu : u < 18446744073709551616) (hq : ∀ h', Ext h h' → Q (.string (bs (sb u))) h') : YC Tryz.prog B0 100 [.int .u64 u] Q h := by
  refine enterF mix Tryz.func100 ok100 rfl (tm := [(0, _)]) (bx := []) rfl rfl fun hp => ?_
  repeat' first | (with_reducible first | exact SetAt.z | apply SetAt.s | apply s_end | exact Kept.nil) | refine qq (hk := ?_) | ((with_reducible first | apply Kept.cons | apply q_blky); rfl) | ((with_reducible apply Kept.skip); rfl) | refine ww (hk := ?_) | (apply c_condP; rfl; exact bpx; all_goals intro hc) | ((first | apply s_gTP | apply s_gFP); rfl; exact bpx; all_goals intro hg) | (apply s_lalloc; rfl) | ((first | apply s_lbox); rfl; rfl; rfl) | (apply s_lstore; rfl; rfl; rfl; rfl; rfl) | (apply s_callB (hm := YC.m _ _); rfl; intro h3 o3 b3)
  refine s_bsl (ps := [(0, [.int .u32 ((u : Int) % 4294967296)]), (1, [.int .u32 ((u : Int) / 4294967296)])]) (cs := [.int .u32 ((u : Int) % 4294967296), .int .u32 ((u : Int) / 4294967296)]) rfl rfl fun h1 n1 => ?_
  have u1 : US .u32 h1.ob [(u : Int) % 4294967296, (u : Int) / 4294967296] (.slice (some ⟨h.ob.length, 0, none⟩) 2 2) := UA.all (k := .u32) n1.at rfl (Nat.le_refl _)
  repeat' first | (with_reducible first | exact SetAt.z | apply SetAt.s | apply s_end | exact Kept.nil) | refine qq (hk := ?_) | ((with_reducible first | apply Kept.cons | apply q_blky); rfl) | ((with_reducible apply Kept.skip); rfl) | refine ww (hk := ?_) | (apply c_condP; rfl; exact bpx; all_goals intro hc) | ((first | apply s_gTP | apply s_gFP); rfl; exact bpx; all_goals intro hg) | (apply s_lalloc; rfl) | ((first | apply s_lbox); rfl; rfl; rfl) | (apply s_lstore; rfl; rfl; rfl; rfl; rfl) | (apply s_callB (hm := YC.m _ _); rfl; intro h3 o3 b3)
  refine k116 (InB.cons (by omega) (by omega) (InB.cons (by omega) (by omega) InB.nil)) (by simp) u1 fun h2 e2 => ?_
  repeat' first | (with_reducible first | exact SetAt.z | apply SetAt.s | apply s_end | exact Kept.nil) | refine qq (hk := ?_) | ((with_reducible first | apply Kept.cons | apply q_blky); rfl) | ((with_reducible apply Kept.skip); rfl) | refine ww (hk := ?_) | (apply c_condP; rfl; exact bpx; all_goals intro hc) | ((first | apply s_gTP | apply s_gFP); rfl; exact bpx; all_goals intro hg) | (apply s_lalloc; rfl) | ((first | apply s_lbox); rfl; rfl; rfl) | (apply s_lstore; rfl; rfl; rfl; rfl; rfl) | (apply s_callB (hm := YC.m _ _); rfl; intro h3 o3 b3)
  have : (lv [(u : Int) % 4294967296, (u : Int) / 4294967296]).toNat = u := by simp only [lv]; omega
  rw [this]
  exact hq _ (n1.ext.trans e2)
end
end Am
end Go.Proofs.YtfhlblclcdhbiaaGreatDoor

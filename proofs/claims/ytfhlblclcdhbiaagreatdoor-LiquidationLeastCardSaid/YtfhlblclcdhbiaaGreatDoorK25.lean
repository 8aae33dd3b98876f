/- Awake; the law of the floor. -/
import Derived.Test.YtfhlblclcdhbiaaGreatDoorK24
namespace Go.Proofs.YtfhlblclcdhbiaaGreatDoor
open Go
set_option linter.unusedVariables false
set_option linter.unusedSimpArgs false
namespace Am
theorem bd_fr {a b : Int} (ha : a.natAbs < 256 ^ 8) (hb : b.natAbs < 256 ^ 8) (h0 : b ≠ 0) : Bd 8 (fr a b) := Bd.rq (by omega) ha hb
theorem bd_amt {x : Int} (hx : 0 ≤ x ∧ x < 65536) : Bd 8 (amt x) := by
  have e : (256 : Nat) ^ 8 = 18446744073709551616 := by decide
  unfold amt
  refine Bd.ite (bd_fr (by rw [e]; omega) (by rw [e]; omega) (by omega)) (Bd.ite (Bd.int (by omega) (by rw [e]; omega)) (Bd.int (by omega) (by rw [e]; omega)))
theorem le_amt {x : Int} (hx : 0 ≤ x ∧ x < 65536) : (amtT x).Le 24 := Tri.Le.mono (triT_le (bd_amt hx)) (by omega)
theorem le_voter {x : Qd} (h : x.Ok) : (voterT x).Le 24 := by
  have e : (256 : Nat) ^ 8 = 18446744073709551616 := by decide
  obtain ⟨ha, hb, hc, hd⟩ := h
  exact ⟨Tri.Le.mono (triT_le (bd_amt hb)) (by omega), Tri.Le.mono (triT_le (bd_fr (by rw [e]; omega) (by rw [e]; omega) (by omega))) (by omega)⟩
theorem le_vals {U : List Int} {N : Nat} (hU : ∀ x ∈ U, 0 ≤ x ∧ x < 65536) : ∀ t ∈ valsT U N, t.Le 24 := by
  intro t ht
  unfold valsT at ht
  rcases List.mem_append.mp ht with ht | ht
  · obtain ⟨x, hx, rfl⟩ := List.mem_map.mp ht
    exact le_amt (hU x (List.mem_of_mem_take hx))
  · rw [(List.mem_replicate.mp ht).2]; decide
def vA : Vt := ⟨0, triT ((100 : Int) : Rat), triT (fr 1 2), false⟩
def tA : Tri := triT ((30 : Int) : Rat)
theorem floorA : floorR [vA] [tA] = fr 3 10 := by
  have h1 : vA.am.q = 100 := triT_q _
  have h2 : vA.ask.q = 1 / 2 := by
    have : vA.ask.q = fr 1 2 := triT_q _
    rw [this]; decide +kernel
  have h3 : tA.q = 30 := triT_q _
  have hc : chk [vA] [tA] = 0 := by
    unfold chk
    rw [if_neg (by simp), if_neg (by simp), if_neg]
    simp only [List.mem_singleton, exists_eq_left, badV, badT, sgn_neg, h1, h2, h3]
    decide +kernel
  have hf : floorq ([vA].zip [tA]) = fr 3 10 := by
    show maxq 0 (leastq vA tA) = _
    unfold leastq maxq
    rw [h1, h2, h3]
    decide +kernel
  unfold floorR
  rw [if_pos hc, hf]
  decide +kernel
theorem chkA : chk [vA] [tA] = 0 := by
  unfold chk
  have h1 : vA.am.q = 100 := triT_q _
  have h2 : vA.ask.q = 1 / 2 := by
    have : vA.ask.q = fr 1 2 := triT_q _
    rw [this]; decide +kernel
  have h3 : tA.q = 30 := triT_q _
  rw [if_neg (by simp), if_neg (by simp), if_neg]
  simp only [List.mem_singleton, exists_eq_left, badV, badT, sgn_neg, h1, h2, h3]
  decide +kernel
section
variable {fr : Fr} {h : AH}
theorem NewO.one {α : Type} {en : α → List Value} {sz : Nat} {h h' : AH} {a : α} (hw : ∀ a, (en a).length = sz) (n : NewO h (some (sz, en a)) h') : TS en sz h'.ob [a] (.slice (some ⟨h.ob.length, 0, none⟩) 1 1) := by
  refine ⟨hw, .row (Nat.le_refl _) n.at ?_ ?_⟩
  · simp [hw]
  · simp [List.take_of_length_le, hw]
theorem q_bldA {y z : X} {n1 n2 : Bool} {a1 b1 a2 b2 : List UInt8} (hy : vl fr y = some (rat n1 (bs a1) (bs b1))) (hz : vl fr z = some (rat n2 (bs a2) (bs b2))) :
    qO (.bld [.int .i64 0, .bool .false, .string ⟨#[]⟩, .string ⟨#[]⟩, .bool .false, .string ⟨#[]⟩, .string ⟨#[]⟩, .bool .false] [(1, (3, y)), (4, (3, z))]) fr h = some (.v (Vt.v ⟨0, ⟨n1, a1, b1⟩, ⟨n2, a2, b2⟩, false⟩)) := by
  simp [qO, partsV, hy, hz, isW, cl, fillC, over, rat, Vt.v]
theorem q_eqsT {x y : X} {s : Tri} (hx : vl fr x = some s.v) (hy : vl fr y = some s.v) : qO (.eqs false [1, 2, 2] x y) fr h = some (.v (.bool true)) := by
  simp [qO, hx, hy, Tri.v, rat, eqL, eqC]
end
section
variable {B0 : Nat} {Q : Value → AH → Prop} {h : AH}
theorem k9 (hq : ∀ h', Ext h h' → Q (.bool true) h') : YC Tryz.prog B0 9 [] Q h := by
  refine enterF mix Tryz.func9 ok9 rfl (tm := []) (bx := [_]) rfl rfl fun hp => ?_
  repeat' first | (with_reducible first | exact SetAt.z | apply SetAt.s | apply s_end | exact Kept.nil) | refine qq (hk := ?_) | ((with_reducible first | apply Kept.cons | apply q_blky); rfl) | ((with_reducible apply Kept.skip); rfl) | (apply s_q; rfl; (first | ((with_reducible apply q_bldA); rfl; rfl))) | refine wq (hk := ?_) | (apply c_condP; rfl; exact bpx; all_goals intro hc) | ((first | apply s_gTP | apply s_gFP); rfl; exact bpx; all_goals intro hg) | (apply s_lalloc; rfl) | ((first | apply s_lbox | apply s_lstoreR); rfl; rfl; rfl) | (apply s_lstore; rfl; rfl; rfl; rfl; rfl) | (apply s_callB (hm := YC.m _ _); rfl; intro h3 o3 b3) | ((with_reducible refine YCi (f := 19) ?_); (refine k19 (n := 100) (by omega) fun h1 e1 => ?_)) | ((with_reducible refine YCi (f := 16) ?_); (refine k16 (a := 1) (b := 2) (by omega) (by omega) (by omega) fun h2 e2 => ?_))
  refine s_bsl (ps := [(0, vA.cs)]) (cs := vA.cs) rfl rfl fun h3 n3 => ?_
  have hv3 : VS h3.ob [vA] _ := n3.one Vt.wd
  have e3 := n3.ext
  repeat' first | (with_reducible first | exact SetAt.z | apply SetAt.s | apply s_end | exact Kept.nil) | refine qq (hk := ?_) | ((with_reducible first | apply Kept.cons | apply q_blky); rfl) | ((with_reducible apply Kept.skip); rfl) | refine wq (hk := ?_) | (apply c_condP; rfl; exact bpx; all_goals intro hc) | ((first | apply s_gTP | apply s_gFP); rfl; exact bpx; all_goals intro hg) | (apply s_lalloc; rfl) | ((first | apply s_lbox | apply s_lstoreR); rfl; rfl; rfl) | (apply s_lstore; rfl; rfl; rfl; rfl; rfl) | (apply s_callB (hm := YC.m _ _); rfl; intro h3 o3 b3) | ((with_reducible refine YCi (f := 19) ?_); (refine k19 (n := 30) (by omega) fun h4 e4 => ?_))
  refine s_bsl (ps := [(0, tA.cs)]) (cs := tA.cs) rfl rfl fun h5 n5 => ?_
  have hw5 : RS h5.ob [tA] _ := n5.one Tri.wd
  have e5 := n5.ext
  have hv5 := hv3.ext (e4.trans e5)
  repeat' first | (with_reducible first | exact SetAt.z | apply SetAt.s | apply s_end | exact Kept.nil) | refine qq (hk := ?_) | ((with_reducible first | apply Kept.cons | apply q_blky); rfl) | ((with_reducible apply Kept.skip); rfl) | refine wq (hk := ?_) | (apply c_condP; rfl; exact bpx; all_goals intro hc) | ((first | apply s_gTP | apply s_gFP); rfl; exact bpx; all_goals intro hg) | (apply s_lalloc; rfl) | ((first | apply s_lbox | apply s_lstoreR); rfl; rfl; rfl) | (apply s_lstore; rfl; rfl; rfl; rfl; rfl) | (apply s_callB (hm := YC.m _ _); rfl; intro h3 o3 b3)
  refine k11 (by simp) (by simp) hv5 hw5 ?_ ?_ fun s h6 e6 hs1 hs2 => ?_
  · intro x hx
    rw [List.mem_singleton.mp hx]
    exact ⟨Tri.Le.mono (triT_le (Bd.int (K := 8) (by omega) (by decide))) (by omega), Tri.Le.mono (triT_le (bd_fr (by decide) (by decide) (by omega))) (by omega)⟩
  · intro x hx
    rw [List.mem_singleton.mp hx]
    exact Tri.Le.mono (triT_le (Bd.int (K := 8) (by omega) (by decide))) (by omega)
  rw [chkA]
  rw [hs1, floorA] at hs2
  rw [hs2]
  repeat' first | (with_reducible first | exact SetAt.z | apply SetAt.s | apply s_end | exact Kept.nil) | refine qq (hk := ?_) | ((with_reducible first | apply Kept.cons | apply q_blky); rfl) | ((with_reducible apply Kept.skip); rfl) | refine wq (hk := ?_) | (apply c_condP; rfl; exact bpx; all_goals intro hc) | ((first | apply s_gTP | apply s_gFP); rfl; exact bpx; all_goals intro hg) | (apply s_lalloc; rfl) | ((first | apply s_lbox | apply s_lstoreR); rfl; rfl; rfl) | (apply s_lstore; rfl; rfl; rfl; rfl; rfl) | (apply s_callB (hm := YC.m _ _); rfl; intro h3 o3 b3)
  refine k16 (a := 3) (b := 10) (by omega) (by omega) (by omega) fun h7 e7 => ?_
  intro h8 o8 b8
  repeat' first | (with_reducible first | exact SetAt.z | apply SetAt.s | apply s_end | exact Kept.nil) | refine qq (hk := ?_) | ((with_reducible first | apply Kept.cons | apply q_blky); rfl) | ((with_reducible apply Kept.skip); rfl) | (apply s_q; rfl; (first | ((with_reducible apply q_eqsT (s := triT (fr 3 10))); rfl; rfl))) | refine wq (hk := ?_) | (apply c_condP; rfl; exact bpx; all_goals intro hc) | ((first | apply s_gTP | apply s_gFP); rfl; exact bpx; all_goals intro hg) | (apply s_lalloc; rfl) | ((first | apply s_lbox | apply s_lstoreR); rfl; rfl; rfl) | (apply s_lstore; rfl; rfl; rfl; rfl; rfl) | (apply s_callB (hm := YC.m _ _); rfl; intro h3 o3 b3)
  exact hq _ exty
end
end Am
end Go.Proofs.YtfhlblclcdhbiaaGreatDoor

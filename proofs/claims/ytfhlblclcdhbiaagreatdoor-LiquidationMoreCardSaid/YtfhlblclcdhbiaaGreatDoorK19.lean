/- A law's voters and values. -/
import Derived.Test.YtfhlblclcdhbiaaGreatDoorK18
namespace Go.Proofs.YtfhlblclcdhbiaaGreatDoor
open Go
set_option linter.unusedVariables false
set_option linter.unusedSimpArgs false
namespace Am
section
variable {B0 : Nat} {Q : Value → AH → Prop} {h : AH}
def amtT (x : Int) : Tri := triT (amt x)
theorem take_snoc {α : Type} {l : List α} {i : Nat} {x : α} (h : l[i]? = some x) : l.take (i + 1) = l.take i ++ [x] := by
  obtain ⟨h1, h2⟩ := List.getElem?_eq_some_iff.mp h
  rw [List.take_succ_eq_append_getElem h1, h2]
theorem k33 {U : List Int} {N : Nat} {v : Value} (hU : ∀ x ∈ U, 0 ≤ x ∧ x < 65536) (hl : U.length ≤ 9223372036854775807) (hN : N ≤ 1000) (hv : US .u16 h.ob U v)
    (hq : ∀ v' h', Ext h h' → OwnL Tri.cs 3 h h' v' ((U.take N).map amtT) → Q v' h') : YC Tryz.prog B0 33 [v, .int .i64 N] Q h := by
  refine enterF mix Tryz.func33 ok33 rfl (tm := [(0, _), (1, _)]) (bx := []) rfl rfl fun hp => ?_
  repeat' first | (with_reducible first | exact SetAt.z | apply SetAt.s | apply s_end | exact Kept.nil) | refine qq (hk := ?_) | ((with_reducible first | apply Kept.cons | apply q_blky); rfl) | ((with_reducible apply Kept.skip); rfl) | refine wq (hk := ?_) | (apply c_condP; rfl; exact bpx; all_goals intro hc) | ((first | apply s_gTP | apply s_gFP); rfl; exact bpx; all_goals intro hg) | (apply s_lalloc; rfl) | ((first | apply s_lbox | apply s_lstoreR); rfl; rfl; rfl) | (apply s_lstore; rfl; rfl; rfl; rfl; rfl) | (apply s_callB (hm := YC.m _ _); rfl; intro h3 o3 b3)
  refine loopI (YC.m _ _) (fun n fr h' => ∃ (i : Nat) (o : Value), n = U.length - i ∧ i ≤ U.length ∧ i ≤ N ∧ Ext h h' ∧ OwnL Tri.cs 3 h h' o ((U.take i).map amtT) ∧ fr = ⟨[(0, .v v), (1, .v (.int .i64 N)), (5, .v o), (6, .v (.int .i64 i))], []⟩) U.length
    ⟨0, _, by omega, by omega, by omega, Ext.refl h, OwnL.nil, rfl⟩ ?_
  rintro n fr h' ⟨i, o, rfl, hi, hiN, e, ho, rfl⟩
  have hv' := hv.ext e
  by_cases hlt : i < U.length ∧ i < N
  · obtain ⟨hlt1, hlt2⟩ := hlt
    obtain ⟨x, hx⟩ := get_lt hlt1
    have hxr := hU x (List.mem_of_getElem? hx)
    have hxg : U.getD i 0 = x := by rw [List.getD_eq_getElem?_getD, hx]; rfl
    repeat' first | (with_reducible first | exact SetAt.z | apply SetAt.s | apply s_end | exact Kept.nil) | refine qq (hk := ?_) | ((with_reducible first | apply Kept.cons | apply q_blky); rfl) | ((with_reducible apply Kept.skip); rfl) | (apply s_q; rfl; (first | ((with_reducible apply q_ldE); rfl; assumption; omega; exact hxg))) | refine wq (hk := ?_) | (apply c_condP; rfl; exact bpx; all_goals intro hc) | ((first | apply s_gTP | apply s_gFP); rfl; exact bpx; all_goals intro hg) | (apply s_lalloc; rfl) | ((first | apply s_lbox | apply s_lstoreR); rfl; rfl; rfl) | (apply s_lstore; rfl; rfl; rfl; rfl; rfl) | (apply s_callB (hm := YC.m _ _); rfl; intro h3 o3 b3)
    refine k27 hxr fun h1 e1 => ?_
    repeat' first | (with_reducible first | exact SetAt.z | apply SetAt.s | apply s_end | exact Kept.nil) | refine qq (hk := ?_) | ((with_reducible first | apply Kept.cons | apply q_blky); rfl) | ((with_reducible apply Kept.skip); rfl) | refine wq (hk := ?_) | (apply c_condP; rfl; exact bpx; all_goals intro hc) | ((first | apply s_gTP | apply s_gFP); rfl; exact bpx; all_goals intro hg) | (apply s_lalloc; rfl) | ((first | apply s_lbox | apply s_lstoreR); rfl; rfl; rfl) | (apply s_lstore; rfl; rfl; rfl; rfl; rfl) | (apply s_callB (hm := YC.m _ _); rfl; intro h3 o3 b3)
    refine s_bsl (ps := [(0, (amtT x).cs)]) (cs := (amtT x).cs) rfl rfl fun h2 n2 => ?_
    repeat' first | (with_reducible first | exact SetAt.z | apply SetAt.s | apply s_end | exact Kept.nil) | refine qq (hk := ?_) | ((with_reducible first | apply Kept.cons | apply q_blky); rfl) | ((with_reducible apply Kept.skip); rfl) | refine wq (hk := ?_) | (apply c_condP; rfl; exact bpx; all_goals intro hc) | ((first | apply s_gTP | apply s_gFP); rfl; exact bpx; all_goals intro hg) | (apply s_lalloc; rfl) | ((first | apply s_lbox | apply s_lstoreR); rfl; rfl; rfl) | (apply s_lstore; rfl; rfl; rfl; rfl; rfl) | (apply s_callB (hm := YC.m _ _); rfl; intro h3 o3 b3)
    have e2 := n2.ext
    refine s_appG rfl rfl Tri.wd ((ho.ext e1).ext e2) n2.at (by omega) (e.trans (e1.trans e2)) hp (by simp; omega) fun v' h3 e3 ho3 => ?_
    repeat' first | (with_reducible first | exact SetAt.z | apply SetAt.s | apply s_end | exact Kept.nil) | refine qq (hk := ?_) | ((with_reducible first | apply Kept.cons | apply q_blky); rfl) | ((with_reducible apply Kept.skip); rfl) | refine wq (hk := ?_) | (apply c_condP; rfl; exact bpx; all_goals intro hc) | ((first | apply s_gTP | apply s_gFP); rfl; exact bpx; all_goals intro hg) | (apply s_lalloc; rfl) | ((first | apply s_lbox | apply s_lstoreR); rfl; rfl; rfl) | (apply s_lstore; rfl; rfl; rfl; rfl; rfl) | (apply s_callB (hm := YC.m _ _); rfl; intro h3 o3 b3)
    refine q_seql (m := U.length - (i + 1)) (by omega) ⟨i + 1, v', rfl, by omega, by omega, e3, ?_, rfl⟩
    rw [take_snoc hx, List.map_append]
    exact ho3
  · have heq : U.take N = U.take i := by
      by_cases h1 : i < U.length
      · have : i = N := by omega
        rw [this]
      · rw [List.take_of_length_le (by omega), List.take_of_length_le (by omega)]
    rw [heq] at hq
    have uo := ho.ts Tri.wd
    by_cases h1 : i < U.length
    · have h2 : ¬ i < N := by omega
      repeat' first | (with_reducible first | exact SetAt.z | apply SetAt.s | apply s_end | exact Kept.nil) | refine qq (hk := ?_) | ((with_reducible first | apply Kept.cons | apply q_blky); rfl) | ((with_reducible apply Kept.skip); rfl) | refine wq (hk := ?_) | (apply c_condP; rfl; exact bpx; all_goals intro hc) | ((first | apply s_gTP | apply s_gFP); rfl; exact bpx; all_goals intro hg) | (apply s_lalloc; rfl) | ((first | apply s_lbox | apply s_lstoreR); rfl; rfl; rfl) | (apply s_lstore; rfl; rfl; rfl; rfl; rfl) | (apply s_callB (hm := YC.m _ _); rfl; intro h3 o3 b3)
      exact hq _ _ e ho
    · repeat' first | (with_reducible first | exact SetAt.z | apply SetAt.s | apply s_end | exact Kept.nil) | refine qq (hk := ?_) | ((with_reducible first | apply Kept.cons | apply q_blky); rfl) | ((with_reducible apply Kept.skip); rfl) | refine wq (hk := ?_) | (apply c_condP; rfl; exact bpx; all_goals intro hc) | ((first | apply s_gTP | apply s_gFP); rfl; exact bpx; all_goals intro hg) | (apply s_lalloc; rfl) | ((first | apply s_lbox | apply s_lstoreR); rfl; rfl; rfl) | (apply s_lstore; rfl; rfl; rfl; rfl; rfl) | (apply s_callB (hm := YC.m _ _); rfl; intro h3 o3 b3)
      exact hq _ _ e ho
def zeroT : Tri := ⟨false, [], []⟩
/-- the values of a law -/
def valsT (U : List Int) (N : Nat) : List Tri := (U.take N).map amtT ++ List.replicate (N - U.length) zeroT
theorem k12 {U : List Int} {N : Nat} {v : Value} (hU : ∀ x ∈ U, 0 ≤ x ∧ x < 65536) (hl : U.length ≤ 9223372036854775807) (hN : N ≤ 1000) (hv : US .u16 h.ob U v)
    (hq : ∀ v' h', Ext h h' → RS h'.ob (valsT U N) v' → Q v' h') : YC Tryz.prog B0 12 [v, .int .i64 N] Q h := by
  refine enterF mix Tryz.func12 ok12 rfl (tm := [(0, _), (1, _)]) (bx := []) rfl rfl fun hp => ?_
  repeat' first | (with_reducible first | exact SetAt.z | apply SetAt.s | apply s_end | exact Kept.nil) | refine qq (hk := ?_) | ((with_reducible first | apply Kept.cons | apply q_blky); rfl) | ((with_reducible apply Kept.skip); rfl) | refine wq (hk := ?_) | (apply c_condP; rfl; exact bpx; all_goals intro hc) | ((first | apply s_gTP | apply s_gFP); rfl; exact bpx; all_goals intro hg) | (apply s_lalloc; rfl) | ((first | apply s_lbox | apply s_lstoreR); rfl; rfl; rfl) | (apply s_lstore; rfl; rfl; rfl; rfl; rfl) | (apply s_callB (hm := YC.m _ _); rfl; intro h3 o3 b3)
  refine k33 hU hl hN hv fun v1 h1 e1 ho1 => ?_
  repeat' first | (with_reducible first | exact SetAt.z | apply SetAt.s | apply s_end | exact Kept.nil) | refine qq (hk := ?_) | ((with_reducible first | apply Kept.cons | apply q_blky); rfl) | ((with_reducible apply Kept.skip); rfl) | refine wq (hk := ?_) | (apply c_condP; rfl; exact bpx; all_goals intro hc) | ((first | apply s_gTP | apply s_gFP); rfl; exact bpx; all_goals intro hg) | (apply s_lalloc; rfl) | ((first | apply s_lbox | apply s_lstoreR); rfl; rfl; rfl) | (apply s_lstore; rfl; rfl; rfl; rfl; rfl) | (apply s_callB (hm := YC.m _ _); rfl; intro h3 o3 b3)
  refine loopI (YC.m _ _) (fun n fr h' => ∃ (k : Nat) (o : Value) (ex : List (Nat × TV)), n = N - k ∧ k ≤ N ∧ min N U.length ≤ k ∧ Ext h h' ∧ OwnL Tri.cs 3 h h' o ((U.take N).map amtT ++ List.replicate (k - min N U.length) zeroT) ∧ fr = ⟨(1, .v (.int .i64 N)) :: (5, .v o) :: ex, []⟩) (N - min N U.length)
    ⟨min N U.length, v1, [], rfl, by omega, by omega, e1, by simpa using ho1, rfl⟩ ?_
  rintro n fr h' ⟨k, o, ex, rfl, hk, hk2, e, ho, rfl⟩
  have uo := ho.ts Tri.wd
  have hlen : ((U.take N).map amtT ++ List.replicate (k - min N U.length) zeroT).length = k := by simp; omega
  by_cases hlt : k < N
  · repeat' first | (with_reducible first | exact SetAt.z | apply SetAt.s | apply s_end | exact Kept.nil) | refine qq (hk := ?_) | ((with_reducible first | apply Kept.cons | apply q_blky); rfl) | ((with_reducible apply Kept.skip); rfl) | refine wq (hk := ?_) | (apply c_condP; rfl; exact bpx; all_goals intro hc) | ((first | apply s_gTP | apply s_gFP); rfl; exact bpx; all_goals intro hg) | (apply s_lalloc; rfl) | ((first | apply s_lbox | apply s_lstoreR); rfl; rfl; rfl) | (apply s_lstore; rfl; rfl; rfl; rfl; rfl) | (apply s_callB (hm := YC.m _ _); rfl; intro h3 o3 b3)
    refine s_bsl (ps := [(0, zeroT.cs)]) (cs := zeroT.cs) rfl rfl fun h2 n2 => ?_
    repeat' first | (with_reducible first | exact SetAt.z | apply SetAt.s | apply s_end | exact Kept.nil) | refine qq (hk := ?_) | ((with_reducible first | apply Kept.cons | apply q_blky); rfl) | ((with_reducible apply Kept.skip); rfl) | refine wq (hk := ?_) | (apply c_condP; rfl; exact bpx; all_goals intro hc) | ((first | apply s_gTP | apply s_gFP); rfl; exact bpx; all_goals intro hg) | (apply s_lalloc; rfl) | ((first | apply s_lbox | apply s_lstoreR); rfl; rfl; rfl) | (apply s_lstore; rfl; rfl; rfl; rfl; rfl) | (apply s_callB (hm := YC.m _ _); rfl; intro h3 o3 b3)
    have e2 := n2.ext
    refine s_appG rfl rfl Tri.wd (ho.ext e2) n2.at (by omega) (e.trans e2) hp (by rw [hlen]; omega) fun v' h3 e3 ho3 => ?_
    repeat' first | (with_reducible first | exact SetAt.z | apply SetAt.s | apply s_end | exact Kept.nil) | refine qq (hk := ?_) | ((with_reducible first | apply Kept.cons | apply q_blky); rfl) | ((with_reducible apply Kept.skip); rfl) | refine wq (hk := ?_) | (apply c_condP; rfl; exact bpx; all_goals intro hc) | ((first | apply s_gTP | apply s_gFP); rfl; exact bpx; all_goals intro hg) | (apply s_lalloc; rfl) | ((first | apply s_lbox | apply s_lstoreR); rfl; rfl; rfl) | (apply s_lstore; rfl; rfl; rfl; rfl; rfl) | (apply s_callB (hm := YC.m _ _); rfl; intro h3 o3 b3)
    refine q_seql (m := N - (k + 1)) (by omega) ⟨k + 1, v', _, rfl, by omega, by omega, e3, ?_, rfl⟩
    rw [show k + 1 - min N U.length = (k - min N U.length) + 1 by omega, List.replicate_succ', ← List.append_assoc]
    exact ho3
  · have hkN : k = N := by omega
    subst hkN
    repeat' first | (with_reducible first | exact SetAt.z | apply SetAt.s | apply s_end | exact Kept.nil) | refine qq (hk := ?_) | ((with_reducible first | apply Kept.cons | apply q_blky); rfl) | ((with_reducible apply Kept.skip); rfl) | refine wq (hk := ?_) | (apply c_condP; rfl; exact bpx; all_goals intro hc) | ((first | apply s_gTP | apply s_gFP); rfl; exact bpx; all_goals intro hg) | (apply s_lalloc; rfl) | ((first | apply s_lbox | apply s_lstoreR); rfl; rfl; rfl) | (apply s_lstore; rfl; rfl; rfl; rfl; rfl) | (apply s_callB (hm := YC.m _ _); rfl; intro h3 o3 b3)
    refine hq _ _ e ?_
    rw [valsT, show k - U.length = k - min k U.length by omega]
    exact uo
/-- four numbers -/
structure Qd where
  a : Int
  b : Int
  c : Int
  d : Int
def Qd.cs (x : Qd) : List Value := [.int .u16 x.a, .int .u16 x.b, .int .u16 x.c, .int .u16 x.d]
theorem Qd.wd : ∀ t : Qd, t.cs.length = 4 := fun _ => rfl
def Qd.Ok (x : Qd) : Prop := (0 ≤ x.a ∧ x.a < 65536) ∧ (0 ≤ x.b ∧ x.b < 65536) ∧ (0 ≤ x.c ∧ x.c < 65536) ∧ (0 ≤ x.d ∧ x.d < 65536)
abbrev QS (ob : Ob) (l : List Qd) (v : Value) : Prop := TS Qd.cs 4 ob l v
def voterT (x : Qd) : Vt := ⟨x.a % 5, triT (amt x.b), triT (fr (x.c % 14) 12), x.d % 6 == 0⟩
theorem q_iaaQ {fr : Fr} {a : X} {v : Value} {j : Nat} {k : Int} {kk : IntKind} {l : List Qd} {x : Qd} (ha : vl fr a = some (pt v (j * 4))) (hs : QS h.ob l v) (hj : l[j]? = some x) (hk : 0 ≤ k ∧ k < 4) : qO (.iaa 4 1 a (.c (.int kk k))) fr h = some (.v (pt v (j * 4 + k.toNat))) := by
  obtain ⟨o, off, c, rfl, hc, hr⟩ := hs.sl.at (by have := (List.getElem?_eq_some_iff.mp hj).1; omega)
  have : ad fr a = some (.h o (off + j * 4)) := by
    simp only [vl] at ha
    simp only [ad]
    split at ha
    · rename_i w hw
      cases ha
      simp [hw, pt]
    · cases ha
  simp [qO, this, vl, tv, hk, pt, Nat.add_assoc]
theorem q_ldQ {fr : Fr} {a : X} {v : Value} {j k : Nat} {l : List Qd} {x : Qd} {w : Value} (ha : vl fr a = some (pt v (j * 4 + k))) (hs : QS h.ob l v) (hj : l[j]? = some x) (hk : x.cs[k]? = some w) : qO (.load 1 false a) fr h = some (.v w) := by
  obtain ⟨h1, h2⟩ := List.getElem?_eq_some_iff.mp hk
  have h1' : k < 4 := h1
  refine q_ldF ha hs hj (by omega) ?_
  rw [List.drop_eq_getElem_cons h1]
  simp [ag, h2]
theorem q_bldV {fr : Fr} {x y z w : X} {p : Int} {n1 n2 e : Bool} {a1 b1 a2 b2 : List UInt8} (hx : vl fr x = some (.int .i64 p)) (hy : vl fr y = some (rat n1 (bs a1) (bs b1))) (hz : vl fr z = some (rat n2 (bs a2) (bs b2))) (hw : vl fr w = some (.bool e)) :
    qO (.bld [.int .i64 0, .bool .false, .string ⟨#[]⟩, .string ⟨#[]⟩, .bool .false, .string ⟨#[]⟩, .string ⟨#[]⟩, .bool .false] [(0, (1, x)), (1, (3, y)), (4, (3, z)), (7, (1, w))]) fr h = some (.v (Vt.v ⟨p, ⟨n1, a1, b1⟩, ⟨n2, a2, b2⟩, e⟩)) := by
  simp [qO, partsV, hx, hy, hz, hw, isW, cl, fillC, over, rat, Vt.v]
theorem k10 {U : List Qd} {v : Value} (hU : ∀ x ∈ U, x.Ok) (hl : U.length ≤ 9223372036854775807) (hv : QS h.ob U v)
    (hq : ∀ v' h', Ext h h' → VS h'.ob ((U.take 7).map voterT) v' → Q v' h') : YC Tryz.prog B0 10 [v] Q h := by
  refine enterF mix Tryz.func10 ok10 rfl (tm := [(0, _)]) (bx := []) rfl rfl fun hp => ?_
  repeat' first | (with_reducible first | exact SetAt.z | apply SetAt.s | apply s_end | exact Kept.nil) | refine qq (hk := ?_) | ((with_reducible first | apply Kept.cons | apply q_blky); rfl) | ((with_reducible apply Kept.skip); rfl) | refine wq (hk := ?_) | (apply c_condP; rfl; exact bpx; all_goals intro hc) | ((first | apply s_gTP | apply s_gFP); rfl; exact bpx; all_goals intro hg) | (apply s_lalloc; rfl) | ((first | apply s_lbox | apply s_lstoreR); rfl; rfl; rfl) | (apply s_lstore; rfl; rfl; rfl; rfl; rfl) | (apply s_callB (hm := YC.m _ _); rfl; intro h3 o3 b3)
  refine loopI (YC.m _ _) (fun n fr h' => ∃ (i : Nat) (o : Value), n = U.length - i ∧ i ≤ U.length ∧ i ≤ 7 ∧ Ext h h' ∧ OwnL Vt.cs 8 h h' o ((U.take i).map voterT) ∧ fr = ⟨[(0, .v v), (3, .v o), (4, .v (.int .i64 i))], []⟩) U.length
    ⟨0, _, by omega, by omega, by omega, Ext.refl h, OwnL.nil, rfl⟩ ?_
  rintro n fr h' ⟨i, o, rfl, hi, hiN, e, ho, rfl⟩
  have hv' := hv.ext e
  by_cases hlt : i < U.length ∧ i < 7
  · obtain ⟨hlt1, hlt2⟩ := hlt
    obtain ⟨x, hx⟩ := get_lt hlt1
    obtain ⟨xa, xb, xc, xd⟩ := hU x (List.mem_of_getElem? hx)
    repeat' first | (with_reducible first | exact SetAt.z | apply SetAt.s | apply s_end | exact Kept.nil) | refine qq (hk := ?_) | ((with_reducible first | apply Kept.cons | apply q_blky); rfl) | ((with_reducible apply Kept.skip); rfl) | (apply s_q; rfl; (first | ((with_reducible apply q_iaTN); rfl; rfl; (with_reducible rfl); assumption; omega) | ((with_reducible apply q_iaaQ); rfl; assumption; assumption; omega) | ((with_reducible apply q_ldQ); rfl; assumption; assumption; rfl) | ((with_reducible apply q_bldV); rfl; rfl; rfl; rfl))) | refine wq (hk := ?_) | (apply c_condP; rfl; exact bpx; all_goals intro hc) | ((first | apply s_gTP | apply s_gFP); rfl; exact bpx; all_goals intro hg) | (apply s_lalloc; rfl) | ((first | apply s_lbox | apply s_lstoreR); rfl; rfl; rfl) | (apply s_lstore; rfl; rfl; rfl; rfl; rfl) | (apply s_callB (hm := YC.m _ _); rfl; intro h3 o3 b3)
    refine k27 xb fun h1 e1 => ?_
    intro h2 o2 b2
    have f1 := Ext.br o3 e1 o2 b2
    have hv2 := hv'.ext f1
    repeat' first | (with_reducible first | exact SetAt.z | apply SetAt.s | apply s_end | exact Kept.nil) | refine qq (hk := ?_) | ((with_reducible first | apply Kept.cons | apply q_blky); rfl) | ((with_reducible apply Kept.skip); rfl) | (apply s_q; rfl; (first | ((with_reducible apply q_iaTN); rfl; rfl; (with_reducible rfl); assumption; omega) | ((with_reducible apply q_iaaQ); rfl; assumption; assumption; omega) | ((with_reducible apply q_ldQ); rfl; assumption; assumption; rfl) | ((with_reducible apply q_bldV); rfl; rfl; rfl; rfl))) | refine wq (hk := ?_) | (apply c_condP; rfl; exact bpx; all_goals intro hc) | ((first | apply s_gTP | apply s_gFP); rfl; exact bpx; all_goals intro hg) | (apply s_lalloc; rfl) | ((first | apply s_lbox | apply s_lstoreR); rfl; rfl; rfl) | (apply s_lstore; rfl; rfl; rfl; rfl; rfl) | (apply s_callB (hm := YC.m _ _); rfl; intro h3 o3 b3)
    refine k16 (a := x.c % 14) (b := 12) (by omega) (by omega) (by omega) fun h5 e5 => ?_
    intro h6 o6 b6
    have f2 := Ext.br o3 e5 o6 b6
    have hv6 := hv2.ext f2
    repeat' first | (with_reducible first | exact SetAt.z | apply SetAt.s | apply s_end | exact Kept.nil) | refine qq (hk := ?_) | ((with_reducible first | apply Kept.cons | apply q_blky); rfl) | ((with_reducible apply Kept.skip); rfl) | (apply s_q; rfl; (first | ((with_reducible apply q_iaTN); rfl; rfl; (with_reducible rfl); assumption; omega) | ((with_reducible apply q_iaaQ); rfl; assumption; assumption; omega) | ((with_reducible apply q_ldQ); rfl; assumption; assumption; rfl) | ((with_reducible apply q_bldV); rfl; rfl; rfl; rfl))) | refine wq (hk := ?_) | (apply c_condP; rfl; exact bpx; all_goals intro hc) | ((first | apply s_gTP | apply s_gFP); rfl; exact bpx; all_goals intro hg) | (apply s_lalloc; rfl) | ((first | apply s_lbox | apply s_lstoreR); rfl; rfl; rfl) | (apply s_lstore; rfl; rfl; rfl; rfl; rfl) | (apply s_callB (hm := YC.m _ _); rfl; intro h3 o3 b3)
    refine s_bsl (ps := [(0, (voterT x).cs)]) (cs := (voterT x).cs) rfl rfl fun h7 n7 => ?_
    repeat' first | (with_reducible first | exact SetAt.z | apply SetAt.s | apply s_end | exact Kept.nil) | refine qq (hk := ?_) | ((with_reducible first | apply Kept.cons | apply q_blky); rfl) | ((with_reducible apply Kept.skip); rfl) | refine wq (hk := ?_) | (apply c_condP; rfl; exact bpx; all_goals intro hc) | ((first | apply s_gTP | apply s_gFP); rfl; exact bpx; all_goals intro hg) | (apply s_lalloc; rfl) | ((first | apply s_lbox | apply s_lstoreR); rfl; rfl; rfl) | (apply s_lstore; rfl; rfl; rfl; rfl; rfl) | (apply s_callB (hm := YC.m _ _); rfl; intro h3 o3 b3)
    have e7 := n7.ext
    refine s_appG rfl rfl Vt.wd (((ho.ext f1).ext f2).ext e7) n7.at (by omega) (e.trans (f1.trans (f2.trans e7))) hp (by simp; omega) fun v' h8 e8 ho8 => ?_
    repeat' first | (with_reducible first | exact SetAt.z | apply SetAt.s | apply s_end | exact Kept.nil) | refine qq (hk := ?_) | ((with_reducible first | apply Kept.cons | apply q_blky); rfl) | ((with_reducible apply Kept.skip); rfl) | refine wq (hk := ?_) | (apply c_condP; rfl; exact bpx; all_goals intro hc) | ((first | apply s_gTP | apply s_gFP); rfl; exact bpx; all_goals intro hg) | (apply s_lalloc; rfl) | ((first | apply s_lbox | apply s_lstoreR); rfl; rfl; rfl) | (apply s_lstore; rfl; rfl; rfl; rfl; rfl) | (apply s_callB (hm := YC.m _ _); rfl; intro h3 o3 b3)
    refine q_seql (m := U.length - (i + 1)) (by omega) ⟨i + 1, v', rfl, by omega, by omega, e8, ?_, rfl⟩
    rw [take_snoc hx, List.map_append]
    exact ho8
  · have heq : U.take 7 = U.take i := by
      by_cases h1 : i < U.length
      · have : i = 7 := by omega
        rw [this]
      · rw [List.take_of_length_le (by omega), List.take_of_length_le (by omega)]
    rw [heq] at hq
    have uo := ho.ts Vt.wd
    by_cases h1 : i < U.length
    · have h2 : ¬ i < 7 := by omega
      repeat' first | (with_reducible first | exact SetAt.z | apply SetAt.s | apply s_end | exact Kept.nil) | refine qq (hk := ?_) | ((with_reducible first | apply Kept.cons | apply q_blky); rfl) | ((with_reducible apply Kept.skip); rfl) | refine wq (hk := ?_) | (apply c_condP; rfl; exact bpx; all_goals intro hc) | ((first | apply s_gTP | apply s_gFP); rfl; exact bpx; all_goals intro hg) | (apply s_lalloc; rfl) | ((first | apply s_lbox | apply s_lstoreR); rfl; rfl; rfl) | (apply s_lstore; rfl; rfl; rfl; rfl; rfl) | (apply s_callB (hm := YC.m _ _); rfl; intro h3 o3 b3)
      exact hq _ _ e uo
    · repeat' first | (with_reducible first | exact SetAt.z | apply SetAt.s | apply s_end | exact Kept.nil) | refine qq (hk := ?_) | ((with_reducible first | apply Kept.cons | apply q_blky); rfl) | ((with_reducible apply Kept.skip); rfl) | refine wq (hk := ?_) | (apply c_condP; rfl; exact bpx; all_goals intro hc) | ((first | apply s_gTP | apply s_gFP); rfl; exact bpx; all_goals intro hg) | (apply s_lalloc; rfl) | ((first | apply s_lbox | apply s_lstoreR); rfl; rfl; rfl) | (apply s_lstore; rfl; rfl; rfl; rfl; rfl) | (apply s_callB (hm := YC.m _ _); rfl; intro h3 o3 b3)
      exact hq _ _ e uo
end
end Am
end Go.Proofs.YtfhlblclcdhbiaaGreatDoor

/- The law on the least rate. -/
import Derived.Test.YtfhlblclcdhbiaaGreatDoorW5
import Derived.Test.YtfhlblclcdhbiaaGreatDoorP1
namespace Go.Proofs.YtfhlblclcdhbiaaGreatDoor
open Go
set_option linter.unusedVariables false
set_option linter.unusedSimpArgs false
namespace Am
section
variable {fr : Fr} {h : AH}
theorem q_beqE {x y : X} {s t : Bool} (hx : vl fr x = some (.bool s)) (hy : vl fr y = some (.bool t)) (hst : s = t) : qO (.beq false x y) fr h = some (.v (.bool true)) := by
  subst hst
  simp [qO, hx, hy, beqV]
end
section
variable {B0 : Nat} {Q : Value → AH → Prop} {h : AH}
theorem ssub_ge {p q : Rat} : sgn (p - q) ≥ 0 ↔ q ≤ p := by
  have h1 : sgn (p - q) < 0 ↔ p - q < 0 := sgn_neg
  have h2 : p - q < 0 ↔ p < q := by grind
  rw [← Rat.not_lt, ← h2, ← h1]
  omega
theorem bd_leastq {x : Vt} {t : Tri} (hx : x.Le 24) (ht : t.Le 24) : Bd 48 (leastq x t) := by
  unfold leastq
  obtain ⟨x1, x2⟩ := hx
  have h2 : Bd 48 x.ask.q := (x2.bd (by omega)).mono (by omega)
  split
  · exact Bd.zero (by omega)
  · split
    · exact h2
    · rename_i h3
      exact Bd.ite h2 ((ht.bd (by omega)).div (x1.bd (by omega)) h3)
theorem bd_fold : ∀ (zs : List (Vt × Tri)) (o : Rat), (∀ p ∈ zs, p.1.Le 24 ∧ p.2.Le 24) → Bd 48 o → Bd 48 (zs.foldl (fun o p => maxq o (leastq p.1 p.2)) o)
  | [], o, _, ho => ho
  | p :: zs, o, h, ho => by
    rw [List.foldl_cons]
    refine bd_fold zs _ (fun q hq => h q (List.mem_cons_of_mem _ hq)) ?_
    obtain ⟨h1, h2⟩ := h p (List.mem_cons_self ..)
    exact Bd.ite (bd_leastq h1 h2) ho
theorem bd_floorq {zs : List (Vt × Tri)} (h : ∀ p ∈ zs, p.1.Le 24 ∧ p.2.Le 24) : Bd 48 (floorq zs) := bd_fold zs 0 h (Bd.zero (by omega))
theorem k5 {U : List Qd} {W : List Int} {n : Int} {v0 v1 : Value} (hU : ∀ x ∈ U, x.Ok) (hUl : U.length ≤ 9223372036854775807) (hW : ∀ x ∈ W, 0 ≤ x ∧ x < 65536) (hWl : W.length ≤ 9223372036854775807) (hn : 0 ≤ n ∧ n < 65536)
    (g0 : QS h.ob U v0) (g1 : US .u16 h.ob W v1) (hq : ∀ h', Ext h h' → Q (.bool true) h') : YC Tryz.prog B0 5 [v0, v1, .int .u16 n] Q h := by
  refine enterF mix Tryz.func5 ok5 rfl (tm := [(0, _), (1, _), (2, _)]) (bx := [_, _]) rfl rfl fun hp => ?_
  repeat' first | (with_reducible first | exact SetAt.z | apply SetAt.s | apply s_end | exact Kept.nil) | refine qq (hk := ?_) | ((with_reducible first | apply Kept.cons | apply q_blky); rfl) | ((with_reducible apply Kept.skip); rfl) | refine wq (hk := ?_) | (apply c_condP; rfl; exact bpx; all_goals intro hc) | ((first | apply s_gTP | apply s_gFP); rfl; exact bpx; all_goals intro hg) | (apply s_lalloc; rfl) | ((first | apply s_lbox | apply s_lstoreR); rfl; rfl; rfl) | (apply s_lstore; rfl; rfl; rfl; rfl; rfl) | (apply s_callB (hm := YC.m _ _); rfl; intro h3 o3 b3)
  have hck := chk_drawn hU hW
  refine k10 hU hUl g0 fun v4 h1 e1 hv1 => ?_
  have l4 := voters_len U
  have le4 := voters_le hU
  generalize (U.take 7).map voterT = V at hv1 l4 le4 hck
  have g1' := g1.ext e1
  repeat' first | (with_reducible first | exact SetAt.z | apply SetAt.s | apply s_end | exact Kept.nil) | refine qq (hk := ?_) | ((with_reducible first | apply Kept.cons | apply q_blky); rfl) | ((with_reducible apply Kept.skip); rfl) | refine wq (hk := ?_) | (apply c_condP; rfl; exact bpx; all_goals intro hc) | ((first | apply s_gTP | apply s_gFP); rfl; exact bpx; all_goals intro hg) | (apply s_lalloc; rfl) | ((first | apply s_lbox | apply s_lstoreR); rfl; rfl; rfl) | (apply s_lstore; rfl; rfl; rfl; rfl; rfl) | (apply s_callB (hm := YC.m _ _); rfl; intro h3 o3 b3)
  refine k12 hW hWl (N := V.length) (by omega) g1' fun v5 h2 e2 hv5 => ?_
  have hv4 := hv1.ext e2
  have l5 := vals_len W V.length
  have le5 := le_vals (N := V.length) hW
  generalize valsT W V.length = Y at hv5 l5 le5 hck
  repeat' first | (with_reducible first | exact SetAt.z | apply SetAt.s | apply s_end | exact Kept.nil) | refine qq (hk := ?_) | ((with_reducible first | apply Kept.cons | apply q_blky); rfl) | ((with_reducible apply Kept.skip); rfl) | refine wq (hk := ?_) | (apply c_condP; rfl; exact bpx; all_goals intro hc) | ((first | apply s_gTP | apply s_gFP); rfl; exact bpx; all_goals intro hg) | (apply s_lalloc; rfl) | ((first | apply s_lbox | apply s_lstoreR); rfl; rfl; rfl) | (apply s_lstore; rfl; rfl; rfl; rfl; rfl) | (apply s_callB (hm := YC.m _ _); rfl; intro h3 o3 b3)
  refine k11 (by omega) (by omega) hv4 hv5 le4 le5 fun q1 h3 e3 hq1 ho1 => ?_
  have hv4 := hv4.ext e3
  have hv5 := hv5.ext e3
  repeat' first | (with_reducible first | exact SetAt.z | apply SetAt.s | apply s_end | exact Kept.nil) | refine qq (hk := ?_) | ((with_reducible first | apply Kept.cons | apply q_blky); rfl) | ((with_reducible apply Kept.skip); rfl) | refine wq (hk := ?_) | (apply c_condP; rfl; exact bpx; all_goals intro hc) | ((first | apply s_gTP | apply s_gFP); rfl; exact bpx; all_goals intro hg) | (apply s_lalloc; rfl) | ((first | apply s_lbox | apply s_lstoreR); rfl; rfl; rfl) | (apply s_lstore; rfl; rfl; rfl; rfl; rfl) | (apply s_callB (hm := YC.m _ _); rfl; intro h3 o3 b3)
  have e8 : (256 : Nat) ^ 8 = 18446744073709551616 := by decide
  refine k16 (a := n % 121) (b := 120) (by omega) (by omega) (by omega) fun h4 e4 => ?_
  have hv4 := hv4.ext e4
  have hv5 := hv5.ext e4
  have hR : (triT (fr (n % 121) 120)).Le 24 := Tri.Le.mono (triT_le (bd_fr (by rw [e8]; omega) (by rw [e8]; omega) (by omega))) (by omega)
  have hI : inR (triT (fr (n % 121) 120)) := inR_fr (by omega) (by omega) (by omega)
  have hRo : (triT (fr (n % 121) 120)).q = fr (n % 121) 120 := triT_q _
  repeat' first | (with_reducible first | exact SetAt.z | apply SetAt.s | apply s_end | exact Kept.nil) | refine qq (hk := ?_) | ((with_reducible first | apply Kept.cons | apply q_blky); rfl) | ((with_reducible apply Kept.skip); rfl) | refine wq (hk := ?_) | (apply c_condP; rfl; exact bpx; all_goals intro hc) | ((first | apply s_gTP | apply s_gFP); rfl; exact bpx; all_goals intro hg) | (apply s_lalloc; rfl) | ((first | apply s_lbox | apply s_lstoreR); rfl; rfl; rfl) | (apply s_lstore; rfl; rfl; rfl; rfl; rfl) | (apply s_callB (hm := YC.m _ _); rfl; intro h3 o3 b3)
  refine k15 (r := triT (fr (n % 121) 120)) (by omega) (by omega) hv4 hv5 le4 le5 hR fun q2 h5 e5 i2 => ?_
  have hv4 := hv4.ext e5
  have hv5 := hv5.ext e5
  have hw1 : werr V Y (triT (fr (n % 121) 120)) = 0 := by unfold werr; rw [if_pos hck, if_pos hI]
  have hp1 := wres_pos hck hI
  have hl1 := wres_len (l := V) (vs := Y) (r := triT (fr (n % 121) 120))
  generalize wres V Y (triT (fr (n % 121) 120)) = A at i2 hp1 hl1
  rw [hw1]
  repeat' first | (with_reducible first | exact SetAt.z | apply SetAt.s | apply s_end | exact Kept.nil) | refine qq (hk := ?_) | ((with_reducible first | apply Kept.cons | apply q_blky); rfl) | ((with_reducible apply Kept.skip); rfl) | refine wq (hk := ?_) | (apply c_condP; rfl; exact bpx; all_goals intro hc) | ((first | apply s_gTP | apply s_gFP); rfl; exact bpx; all_goals intro hg) | (apply s_lalloc; rfl) | ((first | apply s_lbox | apply s_lstoreR); rfl; rfl; rfl) | (apply s_lstore; rfl; rfl; rfl; rfl; rfl) | (apply s_callB (hm := YC.m _ _); rfl; intro h3 o3 b3)
  refine k19 (n := 1) (by omega) fun h6 e6 => ?_
  have hv4 := hv4.ext e6
  have hv5 := hv5.ext e6
  have i2 := i2.ext e6
  repeat' first | (with_reducible first | exact SetAt.z | apply SetAt.s | apply s_end | exact Kept.nil) | refine qq (hk := ?_) | ((with_reducible first | apply Kept.cons | apply q_blky); rfl) | ((with_reducible apply Kept.skip); rfl) | refine wq (hk := ?_) | (apply c_condP; rfl; exact bpx; all_goals intro hc) | ((first | apply s_gTP | apply s_gFP); rfl; exact bpx; all_goals intro hg) | (apply s_lalloc; rfl) | ((first | apply s_lbox | apply s_lstoreR); rfl; rfl; rfl) | (apply s_lstore; rfl; rfl; rfl; rfl; rfl) | (apply s_callB (hm := YC.m _ _); rfl; intro h3 o3 b3)
  refine k15 (r := triT ((1 : Int) : Rat)) (by omega) (by omega) hv4 hv5 le4 le5 (le1 (by omega)) fun q3 h7 e7 i3 => ?_
  have i2 := i2.ext e7
  have hw2 : werr V Y (triT ((1 : Int) : Rat)) = 0 := by unfold werr; rw [if_pos hck, if_pos inR_one]
  have hp2 := wres_pos hck inR_one
  have hl2 := wres_len (l := V) (vs := Y) (r := triT ((1 : Int) : Rat))
  generalize wres V Y (triT ((1 : Int) : Rat)) = B at i3 hp2 hl2
  rw [hw2, hck]
  rw [triT_q, int_one] at hp2
  rw [triT_q] at hp1
  have hfl : floorR V Y = if 1 < floorq (V.zip Y) then 1 else floorq (V.zip Y) := by unfold floorR; rw [if_pos hck]
  have hbF : Bd 48 (floorq (V.zip Y)) := bd_floorq fun p hp => ⟨le4 p.1 (List.of_mem_zip hp).1, le5 p.2 (List.of_mem_zip hp).2⟩
  generalize floorq (V.zip Y) = F at hp1 hp2 hfl hbF
  rw [hfl] at hq1
  have f7 : Ext h h7 := e1.trans (e2.trans (e3.trans (e4.trans (e5.trans (e6.trans e7)))))
  unfold inR at hI
  rw [hRo] at hI
  by_cases hB : 1 < F
  · have hB2 := hp2.mpr hB
    have hA : 0 < A.length := hp1.mpr (by grind)
    rw [if_pos hB] at hq1
    rw [hq1] at ho1
    subst ho1
    repeat' first | (with_reducible first | exact SetAt.z | apply SetAt.s | apply s_end | exact Kept.nil) | refine qq (hk := ?_) | ((with_reducible first | apply Kept.cons | apply q_blky); rfl) | ((with_reducible apply Kept.skip); rfl) | refine wq (hk := ?_) | (apply c_condP; rfl; exact bpx; all_goals intro hc) | ((first | apply s_gTP | apply s_gFP); rfl; exact bpx; all_goals intro hg) | (apply s_lalloc; rfl) | ((first | apply s_lbox | apply s_lstoreR); rfl; rfl; rfl) | (apply s_lstore; rfl; rfl; rfl; rfl; rfl) | (apply s_callB (hm := YC.m _ _); rfl; intro h3 o3 b3)
    refine k9 fun h8 e8 => ?_
    intro h9 o9 b9
    have f9 := Ext.br o3 e8 o9 b9
    have i2 := i2.ext f9
    repeat' first | (with_reducible first | exact SetAt.z | apply SetAt.s | apply s_end | exact Kept.nil) | refine qq (hk := ?_) | ((with_reducible first | apply Kept.cons | apply q_blky); rfl) | ((with_reducible apply Kept.skip); rfl) | refine wq (hk := ?_) | (apply c_condP; rfl; exact bpx; all_goals intro hc) | ((first | apply s_gTP | apply s_gFP); rfl; exact bpx; all_goals intro hg) | (apply s_lalloc; rfl) | ((first | apply s_lbox | apply s_lstoreR); rfl; rfl; rfl) | (apply s_lstore; rfl; rfl; rfl; rfl; rfl) | (apply s_callB (hm := YC.m _ _); rfl; intro h3 o3 b3)
    refine k19 (n := 1) (by omega) fun h10 e10 => ?_
    intro h11 o11 b11
    have f11 := Ext.br o3 e10 o11 b11
    have i2 := i2.ext f11
    repeat' first | (with_reducible first | exact SetAt.z | apply SetAt.s | apply s_end | exact Kept.nil) | refine qq (hk := ?_) | ((with_reducible first | apply Kept.cons | apply q_blky); rfl) | ((with_reducible apply Kept.skip); rfl) | (apply s_q; rfl; (first | ((with_reducible apply q_eqsT (s := triT 1)); rfl; rfl))) | refine wq (hk := ?_) | (apply c_condP; rfl; exact bpx; all_goals intro hc) | ((first | apply s_gTP | apply s_gFP); rfl; exact bpx; all_goals intro hg) | (apply s_lalloc; rfl) | ((first | apply s_lbox | apply s_lstoreR); rfl; rfl; rfl) | (apply s_lstore; rfl; rfl; rfl; rfl; rfl) | (apply s_callB (hm := YC.m _ _); rfl; intro h3 o3 b3)
    rw [show decide ((A.length : Int) > 0) = true from decide_eq_true (by omega)]
    exact hq _ (f7.trans (f9.trans f11))
  · have hB2 : ¬ 0 < B.length := fun hh => hB (hp2.mp hh)
    rw [if_neg hB] at hq1
    repeat' first | (with_reducible first | exact SetAt.z | apply SetAt.s | apply s_end | exact Kept.nil) | refine qq (hk := ?_) | ((with_reducible first | apply Kept.cons | apply q_blky); rfl) | ((with_reducible apply Kept.skip); rfl) | refine wq (hk := ?_) | (apply c_condP; rfl; exact bpx; all_goals intro hc) | ((first | apply s_gTP | apply s_gFP); rfl; exact bpx; all_goals intro hg) | (apply s_lalloc; rfl) | ((first | apply s_lbox | apply s_lstoreR); rfl; rfl; rfl) | (apply s_lstore; rfl; rfl; rfl; rfl; rfl) | (apply s_callB (hm := YC.m _ _); rfl; intro h3 o3 b3)
    refine k9 fun h8 e8 => ?_
    have i2 := i2.ext e8
    repeat' first | (with_reducible first | exact SetAt.z | apply SetAt.s | apply s_end | exact Kept.nil) | refine qq (hk := ?_) | ((with_reducible first | apply Kept.cons | apply q_blky); rfl) | ((with_reducible apply Kept.skip); rfl) | refine wq (hk := ?_) | (apply c_condP; rfl; exact bpx; all_goals intro hc) | ((first | apply s_gTP | apply s_gFP); rfl; exact bpx; all_goals intro hg) | (apply s_lalloc; rfl) | ((first | apply s_lbox | apply s_lstoreR); rfl; rfl; rfl) | (apply s_lstore; rfl; rfl; rfl; rfl; rfl) | (apply s_callB (hm := YC.m _ _); rfl; intro h3 o3 b3)
    have hq1L : q1.Le 48 := by
      rw [ho1, hq1]; exact triT_le hbF
    refine k20 (s := triT (fr (n % 121) 120)) (t := q1) (K := 48) (by omega) (by omega) (hR.mono (by omega)) hq1L fun h9 e9 => ?_
    rw [hRo, hq1]
    have hge := ssub_ge (p := fr (n % 121) 120) (q := F)
    have hst : ((A.length : Int) == 0) = decide (sgn (fr (n % 121) 120 - F) ≥ 0) := by
      by_cases hh : fr (n % 121) 120 < F
      · have h1 : 0 < A.length := hp1.mpr hh
        have h2 : ¬ sgn (fr (n % 121) 120 - F) ≥ 0 := fun h3 => absurd hh (Rat.not_lt.mpr (hge.mp h3))
        rw [decide_eq_false h2]
        simp only [beq_eq_false_iff_ne, ne_eq]
        omega
      · have h1 : ¬ 0 < A.length := fun h3 => hh (hp1.mp h3)
        have h2 : sgn (fr (n % 121) 120 - F) ≥ 0 := hge.mpr (Rat.not_lt.mp hh)
        rw [decide_eq_true h2]
        simp only [beq_iff_eq]
        omega
    repeat' first | (with_reducible first | exact SetAt.z | apply SetAt.s | apply s_end | exact Kept.nil) | refine qq (hk := ?_) | ((with_reducible first | apply Kept.cons | apply q_blky); rfl) | ((with_reducible apply Kept.skip); rfl) | (apply s_q; rfl; (first | ((with_reducible apply q_beqE); rfl; rfl; exact hst))) | refine wq (hk := ?_) | (apply c_condP; rfl; exact bpx; all_goals intro hc) | ((first | apply s_gTP | apply s_gFP); rfl; exact bpx; all_goals intro hg) | (apply s_lalloc; rfl) | ((first | apply s_lbox | apply s_lstoreR); rfl; rfl; rfl) | (apply s_lstore; rfl; rfl; rfl; rfl; rfl) | (apply s_callB (hm := YC.m _ _); rfl; intro h3 o3 b3)
    exact hq _ (f7.trans (e8.trans e9))
end
end Am
end Go.Proofs.YtfhlblclcdhbiaaGreatDoor

/- The list of those who are worse off. -/
import Derived.Test.YtfhlblclcdhbiaaGreatDoorW2
namespace Go.Proofs.YtfhlblclcdhbiaaGreatDoor
open Go
set_option linter.unusedVariables false
set_option linter.unusedSimpArgs false
namespace Am
open Classical in
noncomputable def worB (zs : List (Vt × Tri)) (r : Tri) (k : Nat) : Bool := decide (∃ x t, zs[k]? = some (x, t) ∧ wor x t r)
noncomputable def wlist (zs : List (Vt × Tri)) (r : Tri) (i : Nat) : List Int := ((List.range i).filter (worB zs r)).map fun k : Nat => (k : Int)
open Classical in
theorem worB_iff {zs : List (Vt × Tri)} {r : Tri} {k : Nat} {x : Vt} {t : Tri} (h : zs[k]? = some (x, t)) : worB zs r k = true ↔ wor x t r := by
  unfold worB
  constructor
  · intro hh
    obtain ⟨y, u, h1, h2⟩ := of_decide_eq_true hh
    rw [h] at h1; cases h1; exact h2
  · exact fun hh => decide_eq_true ⟨x, t, h, hh⟩
theorem wlist_succ {zs : List (Vt × Tri)} {r : Tri} {i : Nat} : wlist zs r (i + 1) = wlist zs r i ++ (if worB zs r i then [(i : Int)] else []) := by
  unfold wlist
  rw [List.range_succ, List.filter_append, List.map_append]
  congr 1
  cases h : worB zs r i <;> simp [List.filter, h]
theorem wlist_len {zs : List (Vt × Tri)} {r : Tri} {i : Nat} : (wlist zs r i).length ≤ i := by
  unfold wlist
  rw [List.length_map]
  exact Nat.le_trans (List.length_filter_le _ _) (by simp)
open Classical in
noncomputable def werr (l : List Vt) (vs : List Tri) (r : Tri) : Int := if chk l vs = 0 then (if inR r then 0 else 1) else chk l vs
open Classical in
noncomputable def wres (l : List Vt) (vs : List Tri) (r : Tri) : List Int := if chk l vs = 0 ∧ inR r then wlist (l.zip vs) r l.length else []
abbrev IS (ob : Ob) (l : List Int) (v : Value) : Prop := US .i64 ob l v
section
variable {B0 : Nat} {Q : Value → AH → Prop} {h : AH}
theorem IS.nil {ob : Ob} : IS ob [] (.slice none 0 0) := ⟨fun _ => rfl, .nil rfl rfl⟩
theorem k15 {l : List Vt} {vs : List Tri} {r : Tri} {v w : Value} (hl : l.length ≤ 9223372036854775807) (hl2 : vs.length ≤ 9223372036854775807) (hv : VS h.ob l v) (hw : RS h.ob vs w) (hle : ∀ x ∈ l, x.Le 24) (hle2 : ∀ x ∈ vs, x.Le 24) (hr : r.Le 24)
    (hq : ∀ u h', Ext h h' → IS h'.ob (wres l vs r) u → Q (.tuple #[u, .int .i64 (werr l vs r)]) h') : YC Tryz.prog B0 15 [v, w, r.v] Q h := by
  refine enterF mix Tryz.func15 ok15 rfl (tm := [(0, _), (1, _), (2, _)]) (bx := [_, _]) rfl rfl fun hp => ?_
  repeat' first | (with_reducible first | exact SetAt.z | apply SetAt.s | apply s_end | exact Kept.nil) | refine qq (hk := ?_) | ((with_reducible first | apply Kept.cons | apply q_blky); rfl) | ((with_reducible apply Kept.skip); rfl) | refine wq (hk := ?_) | (apply c_condP; rfl; exact bpx; all_goals intro hc) | ((first | apply s_gTP | apply s_gFP); rfl; exact bpx; all_goals intro hg) | (apply s_lalloc; rfl) | ((first | apply s_lbox | apply s_lstoreR); rfl; rfl; rfl) | (apply s_lstore; rfl; rfl; rfl; rfl; rfl) | (apply s_callB (hm := YC.m _ _); rfl; intro h3 o3 b3)
  refine k28 hl hl2 hv hw (fun x hx => ⟨(hle x hx).1.mono (by omega), (hle x hx).2.mono (by omega)⟩) (fun x hx => (hle2 x hx).mono (by omega)) fun h1 e1 => ?_
  have hv1 := hv.ext e1
  have hw1 := hw.ext e1
  unfold wres werr at hq
  by_cases hc0 : chk l vs = 0
  · obtain ⟨c1, c2, c3, c4⟩ := chk_len hc0
    rw [if_pos hc0] at hq
    repeat' first | (with_reducible first | exact SetAt.z | apply SetAt.s | apply s_end | exact Kept.nil) | refine qq (hk := ?_) | ((with_reducible first | apply Kept.cons | apply q_blky); rfl) | ((with_reducible apply Kept.skip); rfl) | refine wq (hk := ?_) | (apply c_condP; rfl; exact bpx; all_goals intro hc) | ((first | apply s_gTP | apply s_gFP); rfl; exact bpx; all_goals intro hg) | (apply s_lalloc; rfl) | ((first | apply s_lbox | apply s_lstoreR); rfl; rfl; rfl) | (apply s_lstore; rfl; rfl; rfl; rfl; rfl) | (apply s_callB (hm := YC.m _ _); rfl; intro h3 o3 b3)
    refine k41 (r := r) (hr.mono (by omega)) fun b h2 e2 hb => ?_
    have hv2 := hv1.ext e2
    have hw2 := hw1.ext e2
    cases b with
    | false =>
      have hi : ¬ inR r := fun hh => by have := hb.mpr hh; cases this
      rw [if_neg hi, if_neg (fun hh => hi hh.2)] at hq
      repeat' first | (with_reducible first | exact SetAt.z | apply SetAt.s | apply s_end | exact Kept.nil) | refine qq (hk := ?_) | ((with_reducible first | apply Kept.cons | apply q_blky); rfl) | ((with_reducible apply Kept.skip); rfl) | refine wq (hk := ?_) | (apply c_condP; rfl; exact bpx; all_goals intro hc) | ((first | apply s_gTP | apply s_gFP); rfl; exact bpx; all_goals intro hg) | (apply s_lalloc; rfl) | ((first | apply s_lbox | apply s_lstoreR); rfl; rfl; rfl) | (apply s_lstore; rfl; rfl; rfl; rfl; rfl) | (apply s_callB (hm := YC.m _ _); rfl; intro h3 o3 b3)
      · exact hq _ _ exty IS.nil
      · exact absurd rfl hc
    | true =>
      have hi : inR r := hb.mp rfl
      rw [if_pos hi, if_pos ⟨hc0, hi⟩] at hq
      repeat' first | (with_reducible first | exact SetAt.z | apply SetAt.s | apply s_end | exact Kept.nil) | refine qq (hk := ?_) | ((with_reducible first | apply Kept.cons | apply q_blky); rfl) | ((with_reducible apply Kept.skip); rfl) | refine wq (hk := ?_) | (apply c_condP; rfl; exact bpx; all_goals intro hc) | ((first | apply s_gTP | apply s_gFP); rfl; exact bpx; all_goals intro hg) | (apply s_lalloc; rfl) | ((first | apply s_lbox | apply s_lstoreR); rfl; rfl; rfl) | (apply s_lstore; rfl; rfl; rfl; rfl; rfl) | (apply s_callB (hm := YC.m _ _); rfl; intro h3 o3 b3)
      · exact absurd hc (by simp)
      refine loopI (YC.m _ _) (fun n fr h' => ∃ (i : Nat) (o : Value) (b1 : Nat × List Value), n = l.length - i ∧ Ext h h' ∧ i ≤ l.length ∧ OwnL (fun x : Int => [Value.int .i64 x]) 1 h h' o (wlist (l.zip vs) r i) ∧ fr = ⟨[(1, .v w), (5, .l 0 (0 + 1) 0), (9, .v o), (21, .v v), (22, .v (.int .i64 l.length)), (23, .v (.int .i64 i))], [(0 + 1, r.cs), b1]⟩) l.length
        ⟨0, _, _, by omega, exty, by omega, OwnL.nil, rfl⟩ ?_
      rintro n fr h' ⟨i, o, ⟨g, cs⟩, rfl, e, hi2, ho, rfl⟩
      have hv' := hv.ext e
      have hw' := hw.ext e
      by_cases hlt : i < l.length
      · obtain ⟨x, hx⟩ := get_lt hlt
        obtain ⟨t, ht⟩ := get_lt (l := vs) (i := i) (by omega)
        have hz : (l.zip vs)[i]? = some (x, t) := by
          rw [List.getElem?_zip_eq_some]; exact ⟨hx, ht⟩
        have hiv : i < vs.length := by omega
        have hwl : wlist (l.zip vs) r (i + 1) = wlist (l.zip vs) r i ++ _ := wlist_succ
        have hwi := worB_iff (r := r) hz
        repeat' first | (with_reducible first | exact SetAt.z | apply SetAt.s | apply s_end | exact Kept.nil) | refine qq (hk := ?_) | ((with_reducible first | apply Kept.cons | apply q_blky); rfl) | ((with_reducible apply Kept.skip); rfl) | (apply s_q; rfl; (first | ((with_reducible apply q_iaTN); rfl; rfl; (with_reducible rfl); assumption; omega) | ((with_reducible apply q_ldVt); rfl; assumption; assumption) | ((with_reducible apply q_ldTri); rfl; assumption; assumption) | ((with_reducible apply q_llV (y := x)); rfl; rfl))) | refine wq (hk := ?_) | (apply c_condP; rfl; exact bpx; all_goals intro hc) | ((first | apply s_gTP | apply s_gFP); rfl; exact bpx; all_goals intro hg) | (apply s_lalloc; rfl) | ((first | apply s_lbox | apply s_lstoreR); rfl; rfl; rfl) | (apply s_lstore; rfl; rfl; rfl; rfl; rfl) | (apply s_callB (hm := YC.m _ _); rfl; intro h3 o3 b3) | ((with_reducible apply s_lstoreV (y := x)); rfl; rfl; rfl; rfl)
        refine k42 (x := x) (t := t) (r := r) (hle x (List.mem_of_getElem? hx)) (hle2 t (List.mem_of_getElem? ht)) hr fun b h4 e4 hb4 => ?_
        intro h5 o5 b5
        have f1 := Ext.br o3 e4 o5 b5
        cases b with
        | false =>
          have hf : worB (l.zip vs) r i = false := by
            cases hh : worB (l.zip vs) r i with
            | false => rfl
            | true => have := hb4.mpr (hwi.mp hh); cases this
          rw [hf] at hwl
          repeat' first | (with_reducible first | exact SetAt.z | apply SetAt.s | apply s_end | exact Kept.nil) | refine qq (hk := ?_) | ((with_reducible first | apply Kept.cons | apply q_blky); rfl) | ((with_reducible apply Kept.skip); rfl) | refine wq (hk := ?_) | (apply c_condP; rfl; exact bpx; all_goals intro hc) | ((first | apply s_gTP | apply s_gFP); rfl; exact bpx; all_goals intro hg) | (apply s_lalloc; rfl) | ((first | apply s_lbox | apply s_lstoreR); rfl; rfl; rfl) | (apply s_lstore; rfl; rfl; rfl; rfl; rfl) | (apply s_callB (hm := YC.m _ _); rfl; intro h3 o3 b3)
          refine q_seql (m := l.length - (i + 1)) (by omega) ⟨i + 1, o, _, rfl, e.trans f1, by omega, ?_, rfl⟩
          rw [hwl]
          simpa using ho.ext f1
        | true =>
          have hf : worB (l.zip vs) r i = true := hwi.mpr (hb4.mp rfl)
          rw [hf] at hwl
          repeat' first | (with_reducible first | exact SetAt.z | apply SetAt.s | apply s_end | exact Kept.nil) | refine qq (hk := ?_) | ((with_reducible first | apply Kept.cons | apply q_blky); rfl) | ((with_reducible apply Kept.skip); rfl) | refine wq (hk := ?_) | (apply c_condP; rfl; exact bpx; all_goals intro hc) | ((first | apply s_gTP | apply s_gFP); rfl; exact bpx; all_goals intro hg) | (apply s_lalloc; rfl) | ((first | apply s_lbox | apply s_lstoreR); rfl; rfl; rfl) | (apply s_lstore; rfl; rfl; rfl; rfl; rfl) | (apply s_callB (hm := YC.m _ _); rfl; intro h3 o3 b3)
          refine s_bsl (ps := [(0, [.int .i64 i])]) (cs := [.int .i64 i]) rfl rfl fun h6 n6 => ?_
          repeat' first | (with_reducible first | exact SetAt.z | apply SetAt.s | apply s_end | exact Kept.nil) | refine qq (hk := ?_) | ((with_reducible first | apply Kept.cons | apply q_blky); rfl) | ((with_reducible apply Kept.skip); rfl) | refine wq (hk := ?_) | (apply c_condP; rfl; exact bpx; all_goals intro hc) | ((first | apply s_gTP | apply s_gFP); rfl; exact bpx; all_goals intro hg) | (apply s_lalloc; rfl) | ((first | apply s_lbox | apply s_lstoreR); rfl; rfl; rfl) | (apply s_lstore; rfl; rfl; rfl; rfl; rfl) | (apply s_callB (hm := YC.m _ _); rfl; intro h3 o3 b3)
          have e6 := n6.ext
          refine s_appG (a := (i : Int)) rfl rfl (fun _ => rfl) ((ho.ext f1).ext e6) n6.at (by omega) (e.trans (f1.trans e6)) hp (by have := wlist_len (zs := l.zip vs) (r := r) (i := i); omega) fun v' h8 e8 ho8 => ?_
          repeat' first | (with_reducible first | exact SetAt.z | apply SetAt.s | apply s_end | exact Kept.nil) | refine qq (hk := ?_) | ((with_reducible first | apply Kept.cons | apply q_blky); rfl) | ((with_reducible apply Kept.skip); rfl) | refine wq (hk := ?_) | (apply c_condP; rfl; exact bpx; all_goals intro hc) | ((first | apply s_gTP | apply s_gFP); rfl; exact bpx; all_goals intro hg) | (apply s_lalloc; rfl) | ((first | apply s_lbox | apply s_lstoreR); rfl; rfl; rfl) | (apply s_lstore; rfl; rfl; rfl; rfl; rfl) | (apply s_callB (hm := YC.m _ _); rfl; intro h3 o3 b3)
          refine q_seql (m := l.length - (i + 1)) (by omega) ⟨i + 1, v', _, rfl, e8, by omega, ?_, rfl⟩
          rw [hwl]
          exact ho8
      · have hi3 : i = l.length := by omega
        subst hi3
        have uo : IS h'.ob _ o := OwnL.ts (en := fun x : Int => [Value.int .i64 x]) (sz := 1) (fun _ => rfl) ho
        repeat' first | (with_reducible first | exact SetAt.z | apply SetAt.s | apply s_end | exact Kept.nil) | refine qq (hk := ?_) | ((with_reducible first | apply Kept.cons | apply q_blky); rfl) | ((with_reducible apply Kept.skip); rfl) | refine wq (hk := ?_) | (apply c_condP; rfl; exact bpx; all_goals intro hc) | ((first | apply s_gTP | apply s_gFP); rfl; exact bpx; all_goals intro hg) | (apply s_lalloc; rfl) | ((first | apply s_lbox | apply s_lstoreR); rfl; rfl; rfl) | (apply s_lstore; rfl; rfl; rfl; rfl; rfl) | (apply s_callB (hm := YC.m _ _); rfl; intro h3 o3 b3)
        exact hq _ _ e uo
  · rw [if_neg hc0, if_neg (fun hh => hc0 hh.1)] at hq
    repeat' first | (with_reducible first | exact SetAt.z | apply SetAt.s | apply s_end | exact Kept.nil) | refine qq (hk := ?_) | ((with_reducible first | apply Kept.cons | apply q_blky); rfl) | ((with_reducible apply Kept.skip); rfl) | refine wq (hk := ?_) | (apply c_condP; rfl; exact bpx; all_goals intro hc) | ((first | apply s_gTP | apply s_gFP); rfl; exact bpx; all_goals intro hg) | (apply s_lalloc; rfl) | ((first | apply s_lbox | apply s_lstoreR); rfl; rfl; rfl) | (apply s_lstore; rfl; rfl; rfl; rfl; rfl) | (apply s_callB (hm := YC.m _ _); rfl; intro h3 o3 b3)
    exact hq _ _ exty IS.nil
end
end Am
end Go.Proofs.YtfhlblclcdhbiaaGreatDoor

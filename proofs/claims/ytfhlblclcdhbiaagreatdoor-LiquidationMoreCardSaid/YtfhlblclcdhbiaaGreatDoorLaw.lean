/- From a walk in the abstract machine to a law of the model; the arguments opened. -/
import Derived.Test.YtfhlblclcdhbiaaGreatDoorS2
import Derived.ProofKit
import Derived.OpenShut
import Derived.Deep.Slices
import Derived.Lib.SmallJoins
import Derived.Test.YtfhlblclcdhbiaaGreatDoorK26
namespace Go.Proofs.YtfhlblclcdhbiaaGreatDoor
open Go Go.RowKit
set_option linter.unusedVariables false
set_option linter.unusedSimpArgs false
namespace Am
section
variable {P : Program} {W : World}
/-- a row of the entry, or none -/
abbrev Row0 := Option (Ent × Nat × List Value)
def btOf (As : List Row0) : Bt := fun o => match As[o]? with
  | some (some (e, _, _)) => some e
  | _ => none
def obOf (As : List Row0) : List (Option (Nat × List Value)) := As.map fun x => x.map fun y => (y.2.1, y.2.2)
def hpOf (As : List Row0) : AH := ⟨obOf As, As.length⟩
/-- a row lies in the world, with cells that lead nowhere -/
def RowOk (W : World) (x : Row0) : Prop := ∀ e z cs, x = some (e, z, cs) → e.own = false ∧ e.b < W.heap.size ∧ ∀ (i : Nat) c, cs[i]? = some c → W.cell? ⟨e.b, e.sh + i, none⟩ = some c ∧ ∀ β, CR β c c
theorem rh_of {As : List Row0} (h : ∀ x ∈ As, RowOk W x) : RH W.heap.size (btOf As) (hpOf As) W := by
  have hb : ∀ o e, btOf As o = some e → ∃ z cs, As[o]? = some (some (e, z, cs)) := by
    intro o e ho
    unfold btOf at ho
    split at ho
    · rename_i e' z cs hx
      cases ho
      exact ⟨z, cs, hx⟩
    · cases ho
  have hok : ∀ o e, btOf As o = some e → ∃ z cs, As[o]? = some (some (e, z, cs)) ∧ e.own = false ∧ e.b < W.heap.size ∧ ∀ (i : Nat) c, cs[i]? = some c → W.cell? ⟨e.b, e.sh + i, none⟩ = some c ∧ ∀ β, CR β c c := by
    intro o e ho
    obtain ⟨z, cs, hx⟩ := hb o e ho
    obtain ⟨h1, h2, h3⟩ := h _ (List.mem_of_getElem? hx) e z cs rfl
    exact ⟨z, cs, hx, h1, h2, h3⟩
  have hlen : (hpOf As).ob.length = As.length := by simp [hpOf, obOf]
  refine ⟨?_, ?_, ?_, ?_, ?_, Nat.le_refl _, ?_⟩
  · intro o e ho
    obtain ⟨z, cs, hx, _⟩ := hok o e ho
    rw [hlen]
    exact (List.getElem?_eq_some_iff.mp hx).1
  · intro o e z cs ho hr
    obtain ⟨z', cs', hx, h1, h2, h3⟩ := hok o e ho
    have : (hpOf As).ob[o]? = some (some (z', cs')) := by simp [hpOf, obOf, hx]
    rw [this] at hr
    cases hr
    refine ⟨fun hh => (by rw [h1] at hh; cases hh), fun i x hi => ⟨x, (h3 i x hi).1, (h3 i x hi).2 _⟩⟩
  · intro o e ho hh
    obtain ⟨_, _, _, h1, _⟩ := hok o e ho
    rw [h1] at hh; cases hh
  · intro o e ho _
    obtain ⟨z, cs, hx, h1, h2, _⟩ := hok o e ho
    exact ⟨(List.getElem?_eq_some_iff.mp hx).1, h2⟩
  · intro o1 e1 o2 e2 h1 _ hh
    obtain ⟨_, _, _, h3, _⟩ := hok o1 e1 h1
    rw [h3] at hh; cases hh
  · rw [hlen]; exact Nat.le_refl _
/-- an argument: its place in the entry's list, its row -/
structure Arg {α : Type} (W : World) (en : α → List Value) (sz : Nat) (l : List α) (u : Value) (o : Nat) (v : Value) (x : Row0) : Prop where
  br : ∀ β : Bt, (∀ e z cs, x = some (e, z, cs) → β o = some e) → BR β v u
  ts : ∀ ob : Ob, (∀ e z cs, x = some (e, z, cs) → ob[o]? = some (some (z, cs))) → TS en sz ob l v
  ok : RowOk W x
theorem Arg.at {α : Type} {en : α → List Value} {sz : Nat} {l : List α} {u v : Value} {o : Nat} {x : Row0} {As : List Row0} (a : Arg W en sz l u o v x) (hx : As[o]? = some x) : VR (btOf As) v u ∧ TS en sz (hpOf As).ob l v := by
  refine ⟨VR.base (a.br _ fun e z cs he => ?_), a.ts _ fun e z cs he => ?_⟩
  · subst he; simp [btOf, hx]
  · subst he; simp [hpOf, obOf, hx]
theorem pick {α : Type} {R : Nat → α → Prop} : ∀ (n : Nat), (∀ i, i < n → ∃ a, R i a) → ∃ l : List α, l.length = n ∧ ∀ (i : Nat) a, l[i]? = some a → R i a
  | 0, _ => ⟨[], rfl, fun i a h => by simp at h⟩
  | n + 1, h => by
    obtain ⟨l, hl, hr⟩ := pick n fun i hi => h i (by omega)
    obtain ⟨a, ha⟩ := h n (by omega)
    refine ⟨l ++ [a], by simp [hl], fun i b hb => ?_⟩
    by_cases hi : i < n
    · rw [List.getElem?_append_left (by omega)] at hb
      exact hr i b hb
    · have : i = n := by
        have := (List.getElem?_eq_some_iff.mp hb).1
        simp [hl] at this
        omega
      subst this
      rw [List.getElem?_append_right (by omega)] at hb
      simp [hl] at hb
      subst hb
      exact ha
theorem flat_cell {α : Type} {en : α → List Value} {sz : Nat} {b : Nat} (hw : ∀ a, (en a).length = sz) : ∀ (l : List α) (off : Nat), (∀ (j : Nat) a, l[j]? = some a → ∀ r c, (en a)[r]? = some c → W.cell? ⟨b, off + j * sz + r, none⟩ = some c) →
    ∀ (i : Nat) c, (l.flatMap en)[i]? = some c → W.cell? ⟨b, off + i, none⟩ = some c
  | [], off, _, i, c, h => by simp at h
  | a :: l, off, hc, i, c, h => by
    rw [List.flatMap_cons] at h
    by_cases hi : i < sz
    · rw [List.getElem?_append_left (by rw [hw]; exact hi)] at h
      have := hc 0 a rfl i c h
      simpa using this
    · rw [List.getElem?_append_right (by rw [hw]; omega), hw] at h
      have := flat_cell hw l (off + sz) (fun j a' hj r c' hr => by
        have := hc (j + 1) a' (by simpa using hj) r c' hr
        rw [Nat.succ_mul] at this
        rw [show off + sz + j * sz + r = off + (j * sz + sz) + r from by omega]
        exact this) (i - sz) c h
      rw [show off + sz + (i - sz) = off + i from by omega] at this
      exact this
section
variable {H : Type} {enc : TypeId × Value → H} {t e : TypeId} {u : Value} {d : DataW H} {ps : List MemPlace}
theorem add_cell (b off i j : Nat) : ((⟨b, off, none⟩ : Addr).add i).add j = ⟨b, off + i + j, none⟩ := by
  unfold Addr.add
  by_cases h1 : i = 0 <;> by_cases h2 : j = 0 <;> simp [h1, h2]
/-- a slice that came in -/
theorem open_arg {α : Type} {en : α → List Value} {sz : Nat} {p : α → Prop} (o : Nat) (ht : P.underlying t = some (.slice e)) (hsz : P.cellsOf e = sz) (hw : ∀ a, (en a).length = sz) (hb : ∀ a c, c ∈ en a → ∀ β, CR β c c)
    (hel : ∀ n cs x, cs.length = sz → DataW.trod enc P W 0 (fun _ => true) true n e cs = some x → ∃ a : α, cs = en a ∧ p a)
    {base : Nat} (hval : Value.okWide P W .any base t u) (h : DataW.Trod enc P W 0 (fun _ => true) true t u d ps) :
    ∃ (l : List α) (v : Value) (x : Row0), Arg W en sz l u o v x ∧ (∀ a ∈ l, p a) ∧ l.length ≤ 9223372036854775807 := by
  obtain ⟨fuel, hf⟩ := h
  obtain ⟨a0, len0, cap0, rfl⟩ := WideShapes.okWide_slice ht hval
  rcases Deep.open_slice ht hf with ⟨hcs, _⟩ | ⟨a, len, cap, m, n, D, Pl, hcs, _, hl, hm, hmm, _, hx⟩
  · have hcs' : Value.slice a0 len0 cap0 = .slice none 0 0 := by simpa [Value.cells] using hcs
    rw [hcs']
    exact ⟨[], .slice none 0 0, none, ⟨fun β _ => .snil, fun ob _ => ⟨hw, .nil rfl rfl⟩, fun _ _ _ hh => by cases hh⟩, fun a ha => by simp at ha, by simp⟩
  · have hcs' : Value.slice a0 len0 cap0 = .slice (some a) len cap := by simpa [Value.cells] using hcs
    rw [hcs'] at hval ⊢
    have hok : W.has P .any base a e cap := by
      simp only [Value.okWide, ht, Cell.okWide, Cell.ok] at hval
      exact hval.2.2
    obtain ⟨_, hspot, row, cells, hsh, _⟩ := hok
    have hlt : a.block < W.heap.size := by
      unfold World.shape? at hsh
      split at hsh
      · rename_i hh; exact (Array.getElem?_eq_some_iff.mp hh).1
      · cases hsh
    obtain ⟨b, off, sp⟩ := a
    simp only at hspot hlt
    subst hspot
    have hmc : m = cap := by rw [hmm]; rfl
    obtain ⟨l, hlen, hla⟩ := pick (R := fun i (a : α) => p a ∧ ∀ (r : Nat) c, (en a)[r]? = some c → W.cell? ⟨b, off + i * sz + r, none⟩ = some c) len (fun i hi => by
      obtain ⟨cs', h1, h2⟩ := hx i (by omega)
      rw [hsz] at h1
      obtain ⟨_, h3, h4⟩ := World.cells?_some h1
      obtain ⟨a, rfl, hp⟩ := hel _ _ _ h3 h2
      refine ⟨a, hp, fun r c hr => ?_⟩
      have hrs : r < sz := by
        have := (List.getElem?_eq_some_iff.mp hr).1
        rw [hw] at this
        exact this
      have := h4 r hrs
      rw [add_cell] at this
      rw [this, hr])
    have hfl := flat_cell (W := W) (b := b) (off := off) hw l (fun j a hj => (hla j a hj).2)
    have hfn : (l.flatMap en).length = len * sz := by rw [flat_len hw, hlen]
    refine ⟨l, .slice (some ⟨o, 0, none⟩) len cap, some (⟨b, off, 0, sz, false⟩, sz, l.flatMap en), ⟨fun β hβ => ?_, fun ob hob => ⟨hw, ?_⟩, ?_⟩, fun a ha => ?_, ?_⟩
    · exact .sl (hβ _ _ _ rfl) hl (Nat.le_refl _) (fun h => h) (fun h => by cases h)
    · rw [hlen]
      exact .row hl (hob _ _ _ rfl) (by rw [hfn]; omega) (by rw [List.drop_zero, List.take_of_length_le (by rw [hfn]; exact Nat.le_refl _)])
    · intro e' z cs he
      cases he
      refine ⟨rfl, hlt, fun i c hc => ⟨hfl i c hc, ?_⟩⟩
      obtain ⟨a, _, hca⟩ := List.mem_flatMap.mp (List.mem_of_getElem? hc)
      exact hb a c hca
    · obtain ⟨k, hk⟩ := List.getElem?_of_mem ha
      exact (hla k a hk).1
    · rw [hlen]
      have : maxLen = 9223372036854775807 := by decide
      omega
end
/-- the call itself: it returns true, of what was there nothing has turned -/
theorem law_calls {f : Nat} {args args' : List Value} {As : List Row0} (hAs : ∀ x ∈ As, RowOk W x) (hy : YC P W.heap.size f args (fun v _ => v = .bool true) (hpOf As)) (ha : A2 (VR (btOf As)) args args')
    (hrun : (callFunc f args'.toArray).run P W = .ok (.enter f args'.toArray) W) : Calls P f args'.toArray W fun e W' => e = .returned (.bool true) ∧ Below W.heap.size W W' := by
  have hbar : (hpOf As).bar ≤ (hpOf As).ob.length := by simp [hpOf, obOf]
  obtain ⟨v, h', rfl, _, hc⟩ := hy hbar
  rcases hc (btOf As) W args' (rh_of hAs) ha with ⟨_, h1⟩ | ⟨u, w', h1, _⟩
  · refine h1.mono fun e W' hr => ?_
    cases e with
    | returned u =>
      obtain ⟨β', _, hs, hv⟩ := hr
      have hu : u = .bool true := by
        cases hv with
        | w hw => cases hw with
          | cell hc => cases hc with
            | base hb => cases hb; rfl
      subst hu
      refine ⟨rfl, hs.os, hs.tape, hs.output, hs.size, fun k hk => hs.keep k hk fun o e ho how => ?_⟩
      have := (rh_of hAs).ro o e ho
      exfalso
      have hf : e.own = false := by
        unfold btOf at ho
        split at ho
        · rename_i e' z cs hx
          cases ho
          exact (hAs _ (List.mem_of_getElem? hx) _ _ _ rfl).1
        · cases ho
      rw [hf] at how; cases how
    | _ => exact hr.elim
  · rw [hrun] at h1; cases h1
end
end Am
end Go.Proofs.YtfhlblclcdhbiaaGreatDoor
namespace Go.Proofs.YtfhlblclcdhbiaaGreatDoor
open Go Go.RowKit
set_option linter.unusedVariables false
set_option maxRecDepth 100000
set_option linter.unusedSimpArgs false
namespace Am
section
variable {W : World} {H : Type} {enc : TypeId × Value → H} {fuel : Nat} {cs : List Value} {x : DataW H × List MemPlace} {sp : Nat → Bool} {held : Bool}
theorem bs_self (s : ByteArray) : s = bs s.data.toList := rfl
theorem c4 : Tryz.prog.cellsOf 4 = 1 := by kernel_rfl
theorem c9 : Tryz.prog.cellsOf 9 = 1 := by kernel_rfl
theorem c3 : Tryz.prog.cellsOf 3 = 1 := by kernel_rfl
theorem c30 : Tryz.prog.cellsOf 30 = 3 := by kernel_rfl
theorem c47 : Tryz.prog.cellsOf 47 = 1 := by kernel_rfl
theorem c53 : Tryz.prog.cellsOf 53 = 8 := by kernel_rfl
theorem c68 : Tryz.prog.cellsOf 68 = 4 := by kernel_rfl
theorem b47 {n : Int} (h : (Lit.int .u16 n).wf = true) : 0 ≤ n ∧ n < 65536 := by
  simp [Lit.wf, IntKind.min, IntKind.max, IntKind.signed, IntKind.bits] at h
  omega
theorem b3 {n : Int} (h : (Lit.int .i64 n).wf = true) : -9223372036854775808 ≤ n ∧ n ≤ 9223372036854775807 := by
  simp [Lit.wf, IntKind.min, IntKind.max, IntKind.signed, IntKind.bits] at h
  omega
theorem el_tri (h : DataW.trod enc Tryz.prog W 0 sp held fuel 30 cs = some x) : ∃ t : Tri, cs = t.cs := by
  obtain ⟨y0, y1, y2, n, _, hl, h0, h1, h2⟩ := Deep.trod_struct3 Tryz.underlying30 h
  rw [c30] at hl
  match cs, hl with
  | [a, b, c], _ =>
    simp only [c4, c9, List.drop_zero, List.drop_succ_cons, List.take_succ_cons, List.take_zero] at h0 h1 h2
    obtain ⟨p, e0, _⟩ := DataW.trod_bool Tryz.underlying4 h0
    obtain ⟨q, e1, _⟩ := DataW.trod_string Tryz.underlying9 h1
    obtain ⟨r, e2, _⟩ := DataW.trod_string Tryz.underlying9 h2
    cases e0; cases e1; cases e2
    exact ⟨⟨p, q.data.toList, r.data.toList⟩, rfl⟩
theorem el_u16 (h : DataW.trod enc Tryz.prog W 0 sp held fuel 47 cs = some x) : ∃ a : Int, cs = [.int .u16 a] ∧ 0 ≤ a ∧ a < 65536 := by
  obtain ⟨n, e, _, hw⟩ := DataW.trod_int Tryz.underlying47 h
  exact ⟨n, e, b47 hw⟩
theorem el_qd (h : DataW.trod enc Tryz.prog W 0 sp held fuel 68 cs = some x) : ∃ a : Qd, cs = a.cs ∧ a.Ok := by
  obtain ⟨xs, m, _, _, hl, hx, hel⟩ := DataW.trod_array Tryz.underlying68 h
  rw [c68] at hl
  match cs, hl, xs, hx with
  | [a, b, c, d], _, [y0, y1, y2, y3], _ =>
    have h0 := hel 0 (by omega)
    have h1 := hel 1 (by omega)
    have h2 := hel 2 (by omega)
    have h3 := hel 3 (by omega)
    rw [c47] at h0 h1 h2 h3
    obtain ⟨p, e0, p0⟩ := el_u16 (x := y0) (by simpa using h0)
    obtain ⟨q, e1, p1⟩ := el_u16 (x := y1) (by simpa using h1)
    obtain ⟨r, e2, p2⟩ := el_u16 (x := y2) (by simpa using h2)
    obtain ⟨s, e3, p3⟩ := el_u16 (x := y3) (by simpa using h3)
    cases e0; cases e1; cases e2; cases e3
    exact ⟨⟨p, q, r, s⟩, rfl, p0, p1, p2, p3⟩
theorem el_vt (h : DataW.trod enc Tryz.prog W 0 sp held fuel 53 cs = some x) : ∃ a : Vt, cs = a.cs ∧ -9223372036854775808 ≤ a.p ∧ a.p ≤ 9223372036854775807 := by
  obtain ⟨y0, y1, y2, y3, n, _, hl, h0, h1, h2, h3⟩ := Joins.trod_struct4 Tryz.underlying53 h
  rw [c53] at hl
  match cs, hl with
  | [a0, a1, a2, a3, a4, a5, a6, a7], _ =>
    simp only [c3, c30, c4, List.drop_zero, List.drop_succ_cons, List.take_succ_cons, List.take_zero] at h0 h1 h2 h3
    obtain ⟨p, e0, _, hp⟩ := DataW.trod_int Tryz.underlying3 h0
    obtain ⟨s, e1⟩ := el_tri h1
    obtain ⟨t, e2⟩ := el_tri h2
    obtain ⟨q, e3, _⟩ := DataW.trod_bool Tryz.underlying4 h3
    cases e0; cases e1; cases e2; cases e3
    exact ⟨⟨p, s, t, q⟩, rfl, b3 hp⟩
end
theorem flat_tri (a : Tri) (c : Value) (h : c ∈ a.cs) (β : Bt) : CR β c c := by
  simp only [Tri.cs, List.mem_cons, List.not_mem_nil, or_false] at h
  rcases h with rfl | rfl | rfl
  · exact .base (.bool _)
  · exact .base (.string _)
  · exact .base (.string _)
theorem flat_qd (a : Qd) (c : Value) (h : c ∈ a.cs) (β : Bt) : CR β c c := by
  simp only [Qd.cs, List.mem_cons, List.not_mem_nil, or_false] at h
  rcases h with rfl | rfl | rfl | rfl <;> exact .base (.int _ _)
theorem flat_vt (a : Vt) (c : Value) (h : c ∈ a.cs) (β : Bt) : CR β c c := by
  simp only [Vt.cs, List.mem_cons, List.not_mem_nil, or_false] at h
  rcases h with rfl | rfl | rfl | rfl | rfl | rfl | rfl | rfl <;> first | exact .base (.bool _) | exact .base (.string _) | exact .base (.int _ _)
theorem flat_u16 (a : Int) (c : Value) (h : c ∈ [Value.int .u16 a]) (β : Bt) : CR β c c := by
  simp only [List.mem_cons, List.not_mem_nil, or_false] at h
  rw [h]; exact .base (.int _ _)
section
variable {W : World} {H : Type} {enc : TypeId × Value → H} {u : Value} {d : DataW H} {ps : List MemPlace} (o : Nat)
theorem open22 {base : Nat} (hval : Value.okWide Tryz.prog W .any base 22 u) (h : DataW.Trod enc Tryz.prog W 0 (fun _ => true) true 22 u d ps) : ∃ (l : List Qd) (v : Value) (x : Row0), Arg W Qd.cs 4 l u o v x ∧ (∀ a ∈ l, a.Ok) ∧ l.length ≤ 9223372036854775807 :=
  open_arg o Tryz.underlying22 c68 Qd.wd flat_qd (fun n cs x _ hx => el_qd hx) hval h
theorem open23 {base : Nat} (hval : Value.okWide Tryz.prog W .any base 23 u) (h : DataW.Trod enc Tryz.prog W 0 (fun _ => true) true 23 u d ps) : ∃ (l : List Int) (v : Value) (x : Row0), Arg W (fun a => [Value.int .u16 a]) 1 l u o v x ∧ (∀ a ∈ l, 0 ≤ a ∧ a < 65536) ∧ l.length ≤ 9223372036854775807 :=
  open_arg o Tryz.underlying23 c47 (fun _ => rfl) flat_u16 (fun n cs x _ hx => el_u16 hx) hval h
theorem open24 {base : Nat} (hval : Value.okWide Tryz.prog W .any base 24 u) (h : DataW.Trod enc Tryz.prog W 0 (fun _ => true) true 24 u d ps) : ∃ (l : List Vt) (v : Value) (x : Row0), Arg W Vt.cs 8 l u o v x ∧ (∀ a ∈ l, -9223372036854775808 ≤ a.p ∧ a.p ≤ 9223372036854775807) ∧ l.length ≤ 9223372036854775807 :=
  open_arg o Tryz.underlying24 c53 Vt.wd flat_vt (fun n cs x _ hx => el_vt hx) hval h
theorem open25 {base : Nat} (hval : Value.okWide Tryz.prog W .any base 25 u) (h : DataW.Trod enc Tryz.prog W 0 (fun _ => true) true 25 u d ps) : ∃ (l : List Tri) (v : Value) (x : Row0), Arg W Tri.cs 3 l u o v x ∧ (∀ a ∈ l, True) ∧ l.length ≤ 9223372036854775807 :=
  open_arg (p := fun _ => True) o Tryz.underlying25 c30 Tri.wd flat_tri (fun n cs x _ hx => let ⟨t, e⟩ := el_tri hx; ⟨t, e, trivial⟩) hval h
end
end Am
end Go.Proofs.YtfhlblclcdhbiaaGreatDoor

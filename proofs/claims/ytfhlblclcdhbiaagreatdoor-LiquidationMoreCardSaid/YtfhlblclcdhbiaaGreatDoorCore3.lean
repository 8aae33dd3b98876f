/- The abstract machine's acts are sound. -/
import Derived.Test.YtfhlblclcdhbiaaGreatDoorCore2
import Derived.Laws.Rows
import Derived.Laws.MakeOwn
namespace Go.Proofs.YtfhlblclcdhbiaaGreatDoor
open Go
set_option linter.unusedVariables false
set_option linter.unusedSimpArgs false
namespace Am
section
variable {P : Program} {B0 nt : Nat} {β0 β : Bt} {h0 h : AH} {w0 w : World} {lam : Lam} {fr : Fr} {tmps : Array Value}

theorem cell_of {w w' : World} {b i : Nat} (h : w'.heap[b]? = w.heap[b]?) : w'.cell? ⟨b, i, none⟩ = w.cell? ⟨b, i, none⟩ := by
  simp only [World.cell?, h]
theorem lt_of_cell {w : World} {b i : Nat} {u : Value} (h : w.cell? ⟨b, i, none⟩ = some u) : b < w.heap.size := block_lt_of_cell h
theorem lt_of_heap {w : World} {b : Nat} {o : Obj} (h : w.heap[b]? = some o) : b < w.heap.size := (Array.getElem?_eq_some_iff.mp h).1
theorem alloc_old (w : World) (o : Obj) {b : Nat} (h : b < w.heap.size) : (w.alloc o).heap[b]? = w.heap[b]? := heap_alloc_old w o b h
theorem alloc_new (w : World) (o : Obj) : (w.alloc o).heap[w.heap.size]? = some o := heap_alloc_new w o

/-- a new row, at the heaps' ends -/
def addE (β : Bt) (o : Nat) (e : Ent) : Bt := fun k => if k = o then some e else β k
theorem addE_sub {o : Nat} {e : Ent} (hn : β o = none) : Sub β (addE β o e) := by
  intro k e' hk
  unfold addE
  split
  · rename_i hko; subst hko; rw [hn] at hk; cases hk
  · exact hk
theorem addE_at (o : Nat) (e : Ent) : addE β o e o = some e := by simp [addE]
theorem addE_ne {o k : Nat} {e : Ent} (h : k ≠ o) : addE β o e k = β k := by simp [addE, h]
theorem none_of (hr : RH B0 β h w) {o : Nat} (ho : h.ob.length ≤ o) : β o = none := by
  cases hb : β o with
  | none => rfl
  | some e => have := hr.dom o e hb; omega

theorem FrR.mono {β' : Bt} {lam' : Lam} (s : Sub β β') (hl : ∀ (k : Nat) x, lam[k]? = some (some x) → lam'[k]? = some (some x)) (hf : FrR β lam fr tmps) : FrR β' lam' fr tmps := by
  intro n v hv
  have := hf n v hv
  generalize tmps.getD n undef = u at this ⊢
  cases this with
  | v h => exact .v (h.mono s)
  | l h hg hb => exact .l (hl _ _ h) hg hb
  | x u => exact .x u

/-- a world that differs from w only behind its end, or not at all in the blocks that are told -/
theorem RH.world {w' : World} (hr : RH B0 β h w) (hsz : w.heap.size ≤ w'.heap.size) (hb : ∀ o e, β o = some e → w'.heap[e.b]? = w.heap[e.b]?) : RH B0 β h w' where
  dom := hr.dom
  cell := fun o e z cs h1 h2 => ⟨(hr.cell o e z cs h1 h2).1, fun i x hi => by
    obtain ⟨u, hu, hc⟩ := (hr.cell o e z cs h1 h2).2 i x hi
    exact ⟨u, by rw [cell_of (hb o e h1)]; exact hu, hc⟩⟩
  blk := fun o e h1 h2 => by
    obtain ⟨h3, c, t, h4, h5⟩ := hr.blk o e h1 h2
    exact ⟨h3, c, t, by rw [hb o e h1]; exact h4, h5⟩
  ro := hr.ro
  inj := hr.inj
  b0 := Nat.le_trans hr.b0 hsz
  bar := hr.bar
theorem BxR.world {W : Nat} {bx : List (Nat × List Value)} {w' : World} (hr : BxR W β lam bx w) (hb : ∀ (k b : Nat), blk lam k = some b → w'.heap[b]? = w.heap[b]?) : BxR W β lam bx w' where
  len := hr.len
  box := fun k b h1 => by
    obtain ⟨h2, g, cs, c, t, hl, h3, h4, h5⟩ := hr.box k b h1
    exact ⟨h2, g, cs, c, t, hl, h3, by rw [hb k b h1]; exact h4, h5⟩
  apart := hr.apart
  inj := hr.inj
theorem BxR.lt {W : Nat} {bx : List (Nat × List Value)} (hr : BxR W β lam bx w) {k b : Nat} (h : blk lam k = some b) : b < w.heap.size := by
  obtain ⟨_, _, _, _, _, _, _, h4, _⟩ := hr.box k b h
  exact lt_of_heap h4
theorem BxR.mono {W : Nat} {bx : List (Nat × List Value)} {β' : Bt} (hr : BxR W β lam bx w) (s : Sub β β') (ha : ∀ (k b : Nat), blk lam k = some b → ∀ o e, β' o = some e → e.own = true → e.b ≠ b) : BxR W β' lam bx w where
  len := hr.len
  box := fun k b h1 => by
    obtain ⟨h2, g, cs, c, t, hl, h3, h4, h5⟩ := hr.box k b h1
    exact ⟨h2, g, cs, c, t, hl, h3, h4, h5.imp fun _ _ h => h.mono s⟩
  apart := ha
  inj := hr.inj

/-- every mapped row's block is there (where it may be used) -/
theorem St.dom0 (hs : St B0 β0 h0 w0 nt β lam fr h tmps w) (d0 : ∀ o e, β0 o = some e → o < h0.ob.length) : ∀ o e, β0 o = some e → β o = some e := hs.step.sub
theorem RH.block_lt (hr : RH B0 β h w) {o : Nat} {e : Ent} (he : β o = some e) : e.b < w.heap.size := by
  cases ho : e.own with
  | true => obtain ⟨_, _, _, h4, _⟩ := hr.blk o e he ho; exact lt_of_heap h4
  | false => have := (hr.ro o e he ho).2; have := hr.b0; omega
theorem RH.alloc (hr : RH B0 β h w) (x : Obj) : RH B0 β h (w.alloc x) :=
  hr.world (by simp) fun o e he => alloc_old w x (hr.block_lt he)
theorem BxR.alloc {W : Nat} {bx : List (Nat × List Value)} (hb : BxR W β lam bx w) (x : Obj) : BxR W β lam bx (w.alloc x) :=
  hb.world fun k b hk => alloc_old w x (hb.lt hk)
theorem Step.alloc {β' : Bt} (hs : Step β0 h0 w0 β h w) (x : Obj) : Step β0 h0 w0 β h (w.alloc x) where
  sub := hs.sub
  new := hs.new
  keep := fun b hb hn => by rw [alloc_old w x (Nat.lt_of_lt_of_le hb hs.size)]; exact hs.keep b hb hn
  size := by simp; have := hs.size; omega
  os := hs.os
  tape := hs.tape
  output := hs.output
  bar := hs.bar
  len := hs.len
  low := hs.low
  dead := hs.dead
theorem St.alloc (hs : St B0 β0 h0 w0 nt β lam fr h tmps w) (x : Obj) : St B0 β0 h0 w0 nt β lam fr h tmps (w.alloc x) :=
  ⟨hs.step.alloc (β' := β) x, hs.rh.alloc x, hs.frr, hs.bxr.alloc x, hs.size⟩
/-- a draw: nothing that is told turns -/
theorem St.drawn (hs : St B0 β0 h0 w0 nt β lam fr h tmps w) (n : Nat) : St B0 β0 h0 w0 nt β lam fr h tmps { w with drawn := n } :=
  ⟨⟨hs.step.sub, hs.step.new, hs.step.keep, hs.step.size, hs.step.os, hs.step.tape, hs.step.output, hs.step.bar, hs.step.len, hs.step.low, hs.step.dead⟩, hs.rh.world (Nat.le_refl _) fun _ _ _ => rfl, hs.frr, hs.bxr.world fun _ _ _ => rfl, hs.size⟩

/-- a new row of one's own -/
theorem St.mkO (hs : St B0 β0 h0 w0 nt β lam fr h tmps w) {c : Array Value} {t : TypeId} {z : Nat} {cs : List Value} (hc : ∃ l, cs.length ≤ c.size ∧ l = c.toList.take cs.length ∧ A2 (CR β) cs l) :
    St B0 β0 h0 w0 nt (addE β h.ob.length ⟨w.heap.size, 0, c.size, z, true⟩) lam fr (mkO h z cs) tmps (w.alloc (.cells c t)) := by
  obtain ⟨l, hle, hl, ha⟩ := hc
  have hn : β h.ob.length = none := none_of hs.rh (Nat.le_refl _)
  have sub := addE_sub (e := ⟨w.heap.size, 0, c.size, z, true⟩) hn
  have hob : ∀ o, o < h.ob.length → (Am.mkO h z cs).ob[o]? = h.ob[o]? := fun o ho => by simp [Am.mkO, List.getElem?_append_left ho]
  have hlast : (Am.mkO h z cs).ob[h.ob.length]? = some (some (z, cs)) := by simp [Am.mkO]
  have hlen : (Am.mkO h z cs).ob.length = h.ob.length + 1 := by simp [Am.mkO]
  have al : ∀ o, alive (Am.mkO h z cs) o → o = h.ob.length ∨ (o < h.ob.length ∧ alive h o) := by
    intro o ho
    have := ho.lt
    rw [hlen] at this
    by_cases heq : o = h.ob.length
    · exact .inl heq
    · refine .inr ⟨by omega, ?_⟩
      obtain ⟨z', cs', h'⟩ := ho
      exact ⟨z', cs', by rw [← hob o (by omega)]; exact h'⟩
  have ent : ∀ o e, addE β h.ob.length ⟨w.heap.size, 0, c.size, z, true⟩ o = some e → (o = h.ob.length ∧ e = ⟨w.heap.size, 0, c.size, z, true⟩) ∨ (o ≠ h.ob.length ∧ β o = some e) := by
    intro o e he
    by_cases heq : o = h.ob.length
    · subst heq
      rw [addE_at] at he
      cases he
      exact .inl ⟨rfl, rfl⟩
    · rw [addE_ne heq] at he
      exact .inr ⟨heq, he⟩
  have al0 : ∀ o, o < h.ob.length → alive (Am.mkO h z cs) o → alive h o := fun o ho ha => by
    rcases al o ha with rfl | ⟨_, h⟩
    · omega
    · exact h
  refine ⟨?_, ?_, hs.frr.mono sub fun _ _ h => h, ?_, hs.size⟩
  · have st := hs.step.alloc (β' := β) (.cells c t)
    refine ⟨st.sub.trans sub, ?_, st.keep, st.size, st.os, st.tape, st.output, st.bar, by rw [hlen]; have := st.len; omega, ?_, ?_⟩
    · intro o e he hno
      rcases ent o e he with ⟨rfl, rfl⟩ | ⟨hne, he⟩
      · exact ⟨st.len, rfl, .inl hs.step.size⟩
      · exact st.new o e he hno
    · intro o ho
      have := hs.rh.bar
      rw [hob o (by have := st.bar; omega)]
      exact st.low o ho
    · intro o ho ha
      exact st.dead o ho (al0 o (by have := st.len; omega) ha)
  · refine ⟨?_, ?_, ?_, ?_, ?_, by have := hs.rh.b0; simp; omega, by rw [hlen]; have := hs.rh.bar; simp [Am.mkO]; omega⟩
    · intro o e he
      rw [hlen]
      rcases ent o e he with ⟨rfl, rfl⟩ | ⟨hne, he⟩
      · omega
      · have := hs.rh.dom o e he; omega
    · intro o e z' cs' he hcs
      rcases ent o e he with ⟨rfl, rfl⟩ | ⟨hne, he⟩
      · rw [hlast] at hcs
        cases hcs
        refine ⟨fun _ => ⟨rfl, by simp; omega⟩, fun i x hi => ?_⟩
        obtain ⟨u, hu, hr⟩ := ha.get i x hi
        refine ⟨u, ?_, hr.mono sub⟩
        have hilt : i < cs.length := (List.getElem?_eq_some_iff.mp hi).1
        rw [hl, List.getElem?_take_of_lt hilt] at hu
        simp only [World.cell?, alloc_new, Nat.zero_add]
        simpa using hu
      · rw [hob o (hs.rh.dom o e he)] at hcs
        obtain ⟨h1, h2⟩ := hs.rh.cell o e z' cs' he hcs
        refine ⟨h1, fun i x hi => ?_⟩
        obtain ⟨u, hu, hr⟩ := h2 i x hi
        exact ⟨u, by rw [cell_of (alloc_old w _ (hs.rh.block_lt he))]; exact hu, hr.mono sub⟩
    · intro o e he how
      rcases ent o e he with ⟨rfl, rfl⟩ | ⟨hne, he⟩
      · exact ⟨hs.rh.b0, c, t, alloc_new w _, rfl⟩
      · obtain ⟨h1, c', t', h2, h3⟩ := hs.rh.blk o e he how
        exact ⟨h1, c', t', by rw [alloc_old w _ (lt_of_heap h2)]; exact h2, h3⟩
    · intro o e he how
      rcases ent o e he with ⟨rfl, rfl⟩ | ⟨hne, he⟩
      · cases how
      · exact hs.rh.ro o e he how
    · intro o1 e1 o2 e2 he1 he2 w1 w2 a1 a2 hb
      rcases ent o1 e1 he1 with ⟨rfl, rfl⟩ | ⟨hne1, he1⟩ <;> rcases ent o2 e2 he2 with ⟨rfl, rfl⟩ | ⟨hne2, he2⟩
      · rfl
      · have := hs.rh.block_lt he2; simp at hb; omega
      · have := hs.rh.block_lt he1; simp at hb; omega
      · exact hs.rh.inj o1 e1 o2 e2 he1 he2 w1 w2 (al0 o1 (hs.rh.dom o1 e1 he1) a1) (al0 o2 (hs.rh.dom o2 e2 he2) a2) hb
  · refine (hs.bxr.mono sub ?_).alloc _
    intro k b hk o e he how
    rcases ent o e he with ⟨rfl, rfl⟩ | ⟨hne, he⟩
    · have := hs.bxr.lt hk; simp; omega
    · exact hs.bxr.apart k b hk o e he how

theorem gen_of {k g : Nat} {cs : List Value} (h : fr.bx[k]? = some (g, cs)) : fr.gen k = g := by simp [Fr.gen, h]
theorem box_bx {k : Nat} (hk : k < fr.bx.length) (cs : List Value) : (fr.box k cs).bx = fr.bx.set k (fr.gen k + 1, cs) := by
  have : fr.bx[k]? = some (fr.bx[k].1, fr.bx[k].2) := by rw [List.getElem?_eq_getElem hk]
  simp only [Fr.box, this, gen_of this]
/-- a variable of the call's own, made (anew) -/
theorem St.box (hs : St B0 β0 h0 w0 nt β lam fr h tmps w) {k : Nat} (hk : k < fr.bx.length) {c : Array Value} {t : TypeId} {cs : List Value} (ha : A2 (CR β) cs c.toList) :
    St B0 β0 h0 w0 nt β (lam.set k (some (fr.gen k + 1, w.heap.size))) (fr.box k cs) h tmps (w.alloc (.cells c t)) := by
  have hkl : k < lam.length := by rw [hs.bxr.len]; exact hk
  have hbk : blk (lam.set k (some (fr.gen k + 1, w.heap.size))) k = some w.heap.size := by simp [blk, List.getElem?_set_self hkl]
  have hbn : ∀ k', k' ≠ k → blk (lam.set k (some (fr.gen k + 1, w.heap.size))) k' = blk lam k' := fun k' hne => by
    unfold blk
    rw [List.getElem?_set_ne (Ne.symm hne)]
  have hlt : ∀ (k' b : Nat), blk (lam.set k (some (fr.gen k + 1, w.heap.size))) k' = some b → (k' = k ∧ b = w.heap.size) ∨ (k' ≠ k ∧ blk lam k' = some b) := by
    intro k' b hb
    by_cases hkk : k' = k
    · subst hkk
      rw [hbk] at hb
      cases hb
      exact .inl ⟨rfl, rfl⟩
    · rw [hbn k' hkk] at hb
      exact .inr ⟨hkk, hb⟩
  have st := hs.alloc (.cells c t)
  refine ⟨st.step, st.rh, ?_, ?_, hs.size⟩
  · intro n v hv
    have := hs.frr n v hv
    generalize tmps.getD n undef = u at this ⊢
    cases this with
    | v h => exact .v h
    | l h hg hb =>
      rename_i k' g g' off b b'
      by_cases hkk : k' = k
      · subst hkk
        obtain ⟨_, g2, cs2, _, _, hl2, hx2, _⟩ := hs.bxr.box k' b (by simp [blk, h])
        rw [h] at hl2
        cases hl2
        have := gen_of hx2
        exact .l (List.getElem?_set_self hkl) (by omega) (fun e => by omega)
      · exact .l (by rw [List.getElem?_set_ne (Ne.symm hkk)]; exact h) hg hb
    | x u => exact .x u
  · rw [box_bx hk]
    refine ⟨by simp [hs.bxr.len], ?_, ?_, ?_⟩
    · intro k' b hb
      rcases hlt k' b hb with ⟨rfl, rfl⟩ | ⟨hne, hb⟩
      · exact ⟨hs.step.size, fr.gen k' + 1, cs, c, t, List.getElem?_set_self hkl, by simp [hk], alloc_new w _, ha⟩
      · obtain ⟨h1, g, cs', c', t', hl, h2, h3, h4⟩ := hs.bxr.box k' b hb
        exact ⟨h1, g, cs', c', t', by rw [List.getElem?_set_ne (Ne.symm hne)]; exact hl, by rw [List.getElem?_set_ne (Ne.symm hne)]; exact h2, by rw [alloc_old w _ (lt_of_heap h3)]; exact h3, h4⟩
    · intro k' b hb o e he how
      rcases hlt k' b hb with ⟨rfl, rfl⟩ | ⟨hne, hb⟩
      · have := hs.rh.block_lt he; omega
      · exact hs.bxr.apart k' b hb o e he how
    · intro k1 k2 b h1 h2
      rcases hlt k1 b h1 with ⟨g1, g2⟩ | ⟨hne1, g1⟩ <;> rcases hlt k2 b h2 with ⟨g3, g4⟩ | ⟨hne2, g3⟩
      · omega
      · have := hs.bxr.lt g3; omega
      · have := hs.bxr.lt g1; omega
      · exact hs.bxr.inj k1 k2 b g1 g3

/-- a row that may be written lies in a block that was made since the call began, or is one that the call was given to write -/
theorem St.mine (hs : St B0 β0 h0 w0 nt β lam fr h tmps w) (d0 : ∀ o e, β0 o = some e → o < h0.ob.length) {o : Nat} {e : Ent} (he : β o = some e) (how : e.own = true) (hbar : h.bar ≤ o) (hal : alive h o) :
    e.b < w0.heap.size → ∃ o1 e1, β0 o1 = some e1 ∧ e1.own = true ∧ h0.bar ≤ o1 ∧ alive h0 o1 ∧ e1.b = e.b := by
  intro hlt
  cases hb : β0 o with
  | some e' =>
    have := hs.step.sub _ _ hb
    rw [he] at this
    cases this
    exact ⟨o, e, hb, how, hs.step.bar ▸ hbar, hs.step.dead o (d0 _ _ hb) hal, rfl⟩
  | none =>
    obtain ⟨_, _, hx⟩ := hs.step.new o e he hb
    rcases hx with hx | hx
    · omega
    · exact hx
/-- a block is written, and the abstract rows with it -/
theorem St.row (hs : St B0 β0 h0 w0 nt β lam fr h tmps w) {h' : AH} {b : Nat} {c c' : Array Value} {t : TypeId} (hb : w.heap[b]? = some (.cells c t (0, 0))) (hc : c'.size = c.size)
    (mine : b < w0.heap.size → ∃ o1 e1, β0 o1 = some e1 ∧ e1.own = true ∧ h0.bar ≤ o1 ∧ alive h0 o1 ∧ e1.b = b)
    (hbox : ∀ k : Nat, blk lam k ≠ some b) (hlen : h'.ob.length = h.ob.length) (hbar : h'.bar = h.bar) (hlow : ∀ o, o < h.bar → h'.ob[o]? = h.ob[o]?)
    (hal : ∀ o, alive h' o → alive h o)
    (hcell : ∀ o e z cs, β o = some e → h'.ob[o]? = some (some (z, cs)) → (∃ cs0, h.ob[o]? = some (some (z, cs0)) ∧ cs.length = cs0.length) ∧ ∀ i x, cs[i]? = some x → ∃ u, (w.setRow b c').cell? ⟨e.b, e.sh + i, none⟩ = some u ∧ CR β x u) :
    St B0 β0 h0 w0 nt β lam fr h' tmps (w.setRow b c') := by
  refine ⟨⟨hs.step.sub, hs.step.new, ?_, by simpa using hs.step.size, hs.step.os, hs.step.tape, hs.step.output, hbar.trans hs.step.bar, by rw [hlen]; exact hs.step.len, ?_, ?_⟩, ?_, hs.frr, ?_, hs.size⟩
  · intro k hk hn
    have hne : k ≠ b := by
      rintro rfl
      obtain ⟨o1, e1, h1, h2, h3, h4, h5⟩ := mine hk
      exact hn o1 e1 h1 h2 h3 h4 h5
    rw [setRow_other _ _ _ _ hne]
    exact hs.step.keep k hk hn
  · intro o ho
    rw [hlow o (by rw [hs.step.bar]; exact ho)]
    exact hs.step.low o ho
  · intro o ho ha
    exact hs.step.dead o ho (hal o ha)
  · refine ⟨fun o e he => by rw [hlen]; exact hs.rh.dom o e he, ?_, ?_, fun o e he how => by rw [hbar]; exact hs.rh.ro o e he how, fun o1 e1 o2 e2 a1 a2 a3 a4 a5 a6 => hs.rh.inj o1 e1 o2 e2 a1 a2 a3 a4 (hal _ a5) (hal _ a6), by simpa using hs.rh.b0, by rw [hbar, hlen]; exact hs.rh.bar⟩
    · intro o e z cs he hcs
      obtain ⟨⟨cs0, h1, h2⟩, h3⟩ := hcell o e z cs he hcs
      exact ⟨fun how => by rw [h2]; exact (hs.rh.cell o e z cs0 he h1).1 how, h3⟩
    · intro o e he how
      obtain ⟨h1, c0, t0, h2, h3⟩ := hs.rh.blk o e he how
      by_cases heb : e.b = b
      · rw [heb, hb] at h2
        cases h2
        exact ⟨h1, c', t, by rw [heb]; exact setRow_heap w b c c' t _ hb, by omega⟩
      · exact ⟨h1, c0, t0, by rw [setRow_other _ _ _ _ heb]; exact h2, h3⟩
  · exact hs.bxr.world fun k b' hk => setRow_other _ _ _ _ (by rintro rfl; exact hbox k hk)

theorem St.notBox (hs : St B0 β0 h0 w0 nt β lam fr h tmps w) {o : Nat} {e : Ent} (he : β o = some e) (how : e.own = true) : ∀ k : Nat, blk lam k ≠ some e.b :=
  fun k hk => hs.bxr.apart k e.b hk o e he how rfl
theorem own_of (hr : RH B0 β h w) {o : Nat} {e : Ent} (he : β o = some e) (hbar : h.bar ≤ o) : e.own = true := by
  cases ho : e.own with
  | true => rfl
  | false => have := (hr.ro o e he ho).1; omega
theorem wr_eq {o off : Nat} {vs : List Value} {h' : AH} (hw : wr h o off vs = some h') : ∃ z cs cs', h.ob[o]? = some (some (z, cs)) ∧ h.bar ≤ o ∧ over cs off vs = some cs' ∧ h' = { h with ob := h.ob.set o (some (z, cs')) } := by
  unfold wr at hw
  split at hw
  · rename_i z cs hcs
    split at hw
    · rename_i hbar
      split at hw
      · rename_i cs' hcs'
        cases hw
        exact ⟨z, cs, cs', hcs, hbar, hcs', rfl⟩
      · cases hw
    · cases hw
  · cases hw
/-- cells of the heap are written -/
theorem St.write (hs : St B0 β0 h0 w0 nt β lam fr h tmps w) (d0 : ∀ o e, β0 o = some e → o < h0.ob.length) {o off : Nat} {e : Ent} (he : β o = some e) {vs us : List Value} (hv : A2 (CR β) vs us) {h' : AH} (hw : wr h o off vs = some h') :
    ∃ c t, w.heap[e.b]? = some (.cells c t (0, 0)) ∧ e.sh + off + us.length ≤ c.size ∧
      St B0 β0 h0 w0 nt β lam fr h' tmps (w.setRow e.b (c.toList.take (e.sh + off) ++ us ++ c.toList.drop (e.sh + off + us.length)).toArray) := by
  obtain ⟨z, cs, cs', hcs, hbar, hov, rfl⟩ := wr_eq hw
  have how := own_of hs.rh he hbar
  have hal : alive h o := ⟨z, cs, hcs⟩
  obtain ⟨h1, c, t, h2, h3⟩ := hs.rh.blk o e he how
  obtain ⟨h4, h5⟩ := hs.rh.cell o e z cs he hcs
  obtain ⟨h4a, h4b⟩ := h4 how
  obtain ⟨h6, h7⟩ := over_eq hov
  have hl := hv.len
  have hfit : e.sh + off + us.length ≤ c.size := by omega
  have holt : o < h.ob.length := hs.rh.dom o e he
  refine ⟨c, t, h2, hfit, ?_⟩
  refine hs.row h2 (by simp; omega) (hs.mine d0 he how hbar hal) (hs.notBox he how) (by simp) rfl ?_ ?_ ?_
  · intro o' ho'
    simp only
    rw [List.getElem?_set_ne (by omega)]
  · rintro o' ⟨z', cs'', ha⟩
    simp only at ha
    by_cases hoo : o = o'
    · subst hoo; exact hal
    · rw [List.getElem?_set_ne hoo] at ha; exact ⟨z', cs'', ha⟩
  · intro o' e' z' cs'' he' hcs''
    simp only at hcs''
    by_cases hoo : o = o'
    · subst hoo
      rw [he] at he'
      cases he'
      rw [List.getElem?_set_self holt] at hcs''
      cases hcs''
      refine ⟨⟨cs, hcs, over_len hov⟩, fun i x hi => ?_⟩
      rw [cell_setRow_same w e.b _ c _ t _ h2]
      subst h7
      have hilt : i < cs.length := by
        have := (List.getElem?_eq_some_iff.mp hi).1
        simp at this
        omega
      by_cases hi1 : i < off
      · rw [List.append_assoc, List.getElem?_append_left (by simp; omega), List.getElem?_take_of_lt hi1] at hi
        obtain ⟨u, hu, hr⟩ := h5 i x hi
        refine ⟨u, ?_, hr⟩
        simp only [World.cell?, h2] at hu
        simp only [List.append_assoc, List.getElem?_toArray]
        rw [List.getElem?_append_left (by simp at hu ⊢; omega), List.getElem?_take_of_lt (by omega)]
        simpa using hu
      · by_cases hi2 : i < off + vs.length
        · rw [List.append_assoc, List.getElem?_append_right (by simp; omega), List.getElem?_append_left (by simp; omega)] at hi
          obtain ⟨u, hu, hr⟩ := hv.get _ _ hi
          refine ⟨u, ?_, hr⟩
          simp only [List.append_assoc, List.getElem?_toArray]
          rw [List.getElem?_append_right (by simp; omega), List.getElem?_append_left (by simp; omega)]
          rw [← hu]
          congr 1
          simp
          omega
        · rw [List.getElem?_append_right (by simp; omega), List.getElem?_drop] at hi
          have hidx : off + vs.length + (i - (List.take off cs ++ vs).length) = i := by simp; omega
          rw [hidx] at hi
          obtain ⟨u, hu, hr⟩ := h5 i x hi
          refine ⟨u, ?_, hr⟩
          simp only [World.cell?, h2] at hu
          simp only [List.getElem?_toArray]
          rw [List.getElem?_append_right (by simp; omega), List.getElem?_drop]
          have hidx2 : e.sh + off + us.length + (e.sh + i - (List.take (e.sh + off) c.toList ++ us).length) = e.sh + i := by simp; omega
          rw [hidx2]
          simpa using hu
    · rw [List.getElem?_set_ne hoo] at hcs''
      refine ⟨⟨cs'', hcs'', rfl⟩, fun i x hi => ?_⟩
      obtain ⟨u, hu, hr⟩ := (hs.rh.cell o' e' z' cs'' he' hcs'').2 i x hi
      have hne : e'.b ≠ e.b := by
        intro hbb
        cases ho' : e'.own with
        | true => exact hoo (hs.rh.inj o e o' e' he he' how ho' hal ⟨_, _, hcs''⟩ hbb.symm)
        | false => have := (hs.rh.ro o' e' he' ho').2; omega
      exact ⟨u, by rw [cell_setRow_other _ _ _ _ hne]; exact hu, hr⟩
end
end Am
end Go.Proofs.YtfhlblclcdhbiaaGreatDoor
namespace Go.Proofs.YtfhlblclcdhbiaaGreatDoor
open Go
set_option linter.unusedVariables false
set_option linter.unusedSimpArgs false
namespace Am
section
variable {P : Program} {B0 nt : Nat} {β0 β : Bt} {h0 h : AH} {w0 w : World} {lam : Lam} {fr : Fr} {tmps : Array Value}

theorem cells_over {c : Array Value} {cs us vs cs' : List Value} {off : Nat} (ha : A2 (CR β) cs c.toList) (hv : A2 (CR β) vs us) (hov : over cs off vs = some cs') :
    off + us.length ≤ c.size ∧ A2 (CR β) cs' (c.toList.take off ++ us ++ c.toList.drop (off + us.length)) := by
  obtain ⟨h1, rfl⟩ := over_eq hov
  have hl := hv.len
  have hc := ha.len
  simp at hc
  refine ⟨by omega, ?_⟩
  rw [← hl]
  exact ((ha.take off).append hv).append (ha.drop _)

/-- a variable of the call's own is written -/
theorem St.lwrite (hs : St B0 β0 h0 w0 nt β lam fr h tmps w) (b00 : B0 ≤ w0.heap.size) {k g b off : Nat} (hk : blk lam k = some b) {cs cs' vs us : List Value} (hbx : fr.bx[k]? = some (g, cs)) (hv : A2 (CR β) vs us) (hov : over cs off vs = some cs') :
    ∃ c t, w.heap[b]? = some (.cells c t (0, 0)) ∧ off + us.length ≤ c.size ∧
      St B0 β0 h0 w0 nt β lam { fr with bx := fr.bx.set k (g, cs') } h tmps (w.setRow b (c.toList.take off ++ us ++ c.toList.drop (off + us.length)).toArray) := by
  obtain ⟨hW, g1, cs1, c, t, hl, h1, h2, h3⟩ := hs.bxr.box k b hk
  rw [hbx] at h1
  cases h1
  obtain ⟨h4, h5⟩ := cells_over h3 hv hov
  refine ⟨c, t, h2, h4, ⟨?_, ?_, hs.frr, ?_, hs.size⟩⟩
  · refine ⟨hs.step.sub, hs.step.new, ?_, by simpa using hs.step.size, hs.step.os, hs.step.tape, hs.step.output, hs.step.bar, hs.step.len, hs.step.low, hs.step.dead⟩
    intro k' hk' hn
    rw [setRow_other _ _ _ _ (by omega)]
    exact hs.step.keep k' hk' hn
  · refine hs.rh.world (by simp) fun o e he => setRow_other _ _ _ _ ?_
    cases ho : e.own with
    | true => exact hs.bxr.apart k b hk o e he ho
    | false => have := (hs.rh.ro o e he ho).2; omega
  · have hkl : k < fr.bx.length := (List.getElem?_eq_some_iff.mp hbx).1
    refine ⟨by simp [hs.bxr.len], ?_, hs.bxr.apart, hs.bxr.inj⟩
    intro k' b' hk'
    by_cases hkk : k' = k
    · subst hkk
      rw [hk] at hk'
      cases hk'
      exact ⟨hW, g, cs', _, t, hl, by simp [hkl], setRow_heap w b c _ t _ h2, by simpa using h5⟩
    · obtain ⟨g1, gg, cs2, c2, t2, gl, g2, g3, g4⟩ := hs.bxr.box k' b' hk'
      refine ⟨g1, gg, cs2, c2, t2, gl, by simp only; rw [List.getElem?_set_ne (Ne.symm hkk)]; exact g2, ?_, g4⟩
      rw [setRow_other _ _ _ _ (fun hb => hkk (hs.bxr.inj k' k b' hk' (by rw [hb]; exact hk)))]
      exact g3

theorem kill_at {o o' : Nat} (hne : o' ≠ o) : (kill h o).ob[o']? = h.ob[o']? := by
  simp only [kill]
  rw [List.getElem?_set_ne (Ne.symm hne)]
theorem kill_alive {o o' : Nat} (ha : alive (kill h o) o') : o' ≠ o ∧ alive h o' := by
  have hne : o' ≠ o := by
    rintro rfl
    obtain ⟨z, cs, e⟩ := ha
    have hlt : o' < (kill h o').ob.length := (List.getElem?_eq_some_iff.mp e).1
    simp only [kill, List.length_set] at hlt
    simp only [kill] at e
    rw [List.getElem?_set_self hlt] at e
    cases e
  obtain ⟨z, cs, e⟩ := ha
  rw [kill_at hne] at e
  exact ⟨hne, z, cs, e⟩
/-- a row is given up -/
theorem St.kill (hs : St B0 β0 h0 w0 nt β lam fr h tmps w) {o : Nat} (hbar : h.bar ≤ o) : St B0 β0 h0 w0 nt β lam fr (Am.kill h o) tmps w := by
  refine ⟨⟨hs.step.sub, hs.step.new, hs.step.keep, hs.step.size, hs.step.os, hs.step.tape, hs.step.output, hs.step.bar, by simpa [Am.kill] using hs.step.len, ?_, ?_⟩, ?_, hs.frr, hs.bxr, hs.size⟩
  · intro o' ho'
    rw [kill_at (by have := hs.step.bar; omega)]
    exact hs.step.low o' ho'
  · intro o' ho' ha
    exact hs.step.dead o' ho' (kill_alive ha).2
  · refine ⟨fun o e he => by simpa [Am.kill] using hs.rh.dom o e he, ?_, hs.rh.blk, hs.rh.ro, fun o1 e1 o2 e2 a1 a2 a3 a4 a5 a6 => hs.rh.inj o1 e1 o2 e2 a1 a2 a3 a4 (kill_alive a5).2 (kill_alive a6).2, hs.rh.b0, by simpa [Am.kill] using hs.rh.bar⟩
    intro o' e z cs he hcs
    have hne : o' ≠ o := (kill_alive ⟨z, cs, hcs⟩).1
    rw [kill_at hne] at hcs
    exact hs.rh.cell o' e z cs he hcs

/-- a new row in a block that no living row has -/
theorem St.addRow (hs : St B0 β0 h0 w0 nt β lam fr h tmps w) {e : Ent} (how : e.own = true) (hB : B0 ≤ e.b) {c : Array Value} {t : TypeId} (hblk : w.heap[e.b]? = some (.cells c t (0, 0))) (hN : c.size = e.N)
    (mine : w0.heap.size ≤ e.b ∨ ∃ o1 e1, β0 o1 = some e1 ∧ e1.own = true ∧ h0.bar ≤ o1 ∧ alive h0 o1 ∧ e1.b = e.b)
    (free : ∀ o e', β o = some e' → e'.own = true → alive h o → e'.b ≠ e.b) (hbox : ∀ k : Nat, blk lam k ≠ some e.b)
    {cs : List Value} (hfit : e.sh + cs.length ≤ e.N) (hcs : ∀ i x, cs[i]? = some x → ∃ u, w.cell? ⟨e.b, e.sh + i, none⟩ = some u ∧ CR β x u) :
    St B0 β0 h0 w0 nt (addE β h.ob.length e) lam fr (Am.mkO h e.sz cs) tmps w := by
  have hn : β h.ob.length = none := none_of hs.rh (Nat.le_refl _)
  have sub := addE_sub (e := e) hn
  have hob : ∀ o, o < h.ob.length → (Am.mkO h e.sz cs).ob[o]? = h.ob[o]? := fun o ho => by simp [Am.mkO, List.getElem?_append_left ho]
  have hlast : (Am.mkO h e.sz cs).ob[h.ob.length]? = some (some (e.sz, cs)) := by simp [Am.mkO]
  have hlen : (Am.mkO h e.sz cs).ob.length = h.ob.length + 1 := by simp [Am.mkO]
  have al : ∀ o, alive (Am.mkO h e.sz cs) o → o = h.ob.length ∨ (o < h.ob.length ∧ alive h o) := by
    intro o ho
    have := ho.lt
    rw [hlen] at this
    by_cases heq : o = h.ob.length
    · exact .inl heq
    · refine .inr ⟨by omega, ?_⟩
      obtain ⟨z', cs', h'⟩ := ho
      exact ⟨z', cs', by rw [← hob o (by omega)]; exact h'⟩
  have ent : ∀ o e', addE β h.ob.length e o = some e' → (o = h.ob.length ∧ e' = e) ∨ (o ≠ h.ob.length ∧ β o = some e') := by
    intro o e' he
    by_cases heq : o = h.ob.length
    · subst heq
      rw [addE_at] at he
      cases he
      exact .inl ⟨rfl, rfl⟩
    · rw [addE_ne heq] at he
      exact .inr ⟨heq, he⟩
  have al0 : ∀ o, o < h.ob.length → alive (Am.mkO h e.sz cs) o → alive h o := fun o ho ha => by
    rcases al o ha with rfl | ⟨_, h⟩
    · omega
    · exact h
  refine ⟨?_, ?_, hs.frr.mono sub fun _ _ h => h, ?_, hs.size⟩
  · have st := hs.step
    refine ⟨st.sub.trans sub, ?_, st.keep, st.size, st.os, st.tape, st.output, st.bar, by rw [hlen]; have := st.len; omega, ?_, ?_⟩
    · intro o e' he hno
      rcases ent o e' he with ⟨rfl, rfl⟩ | ⟨hne, he⟩
      · exact ⟨st.len, how, mine⟩
      · exact st.new o e' he hno
    · intro o ho
      have := hs.rh.bar
      rw [hob o (by have := st.bar; omega)]
      exact st.low o ho
    · intro o ho ha
      exact st.dead o ho (al0 o (by have := st.len; omega) ha)
  · refine ⟨?_, ?_, ?_, ?_, ?_, hs.rh.b0, by rw [hlen]; have := hs.rh.bar; simp [Am.mkO]; omega⟩
    · intro o e' he
      rw [hlen]
      rcases ent o e' he with ⟨rfl, rfl⟩ | ⟨hne, he⟩
      · omega
      · have := hs.rh.dom o e' he; omega
    · intro o e' z' cs' he hcs'
      rcases ent o e' he with ⟨rfl, rfl⟩ | ⟨hne, he⟩
      · rw [hlast] at hcs'
        cases hcs'
        refine ⟨fun _ => ⟨rfl, hfit⟩, fun i x hi => ?_⟩
        obtain ⟨u, hu, hr⟩ := hcs i x hi
        exact ⟨u, hu, hr.mono sub⟩
      · rw [hob o (hs.rh.dom o e' he)] at hcs'
        obtain ⟨h1, h2⟩ := hs.rh.cell o e' z' cs' he hcs'
        refine ⟨h1, fun i x hi => ?_⟩
        obtain ⟨u, hu, hr⟩ := h2 i x hi
        exact ⟨u, hu, hr.mono sub⟩
    · intro o e' he how'
      rcases ent o e' he with ⟨rfl, rfl⟩ | ⟨hne, he⟩
      · exact ⟨hB, c, t, hblk, hN⟩
      · exact hs.rh.blk o e' he how'
    · intro o e' he how'
      rcases ent o e' he with ⟨rfl, rfl⟩ | ⟨hne, he⟩
      · rw [how] at how'; cases how'
      · exact hs.rh.ro o e' he how'
    · intro o1 e1 o2 e2 he1 he2 w1 w2 a1 a2 hb
      rcases ent o1 e1 he1 with ⟨g1, g2⟩ | ⟨hne1, k1⟩ <;> rcases ent o2 e2 he2 with ⟨g3, g4⟩ | ⟨hne2, k2⟩
      · omega
      · exact absurd (by rw [← hb, g2]) (free o2 e2 k2 w2 (al0 o2 (hs.rh.dom o2 e2 k2) a2))
      · exact absurd (by rw [hb, g4]) (free o1 e1 k1 w1 (al0 o1 (hs.rh.dom o1 e1 k1) a1))
      · exact hs.rh.inj o1 e1 o2 e2 k1 k2 w1 w2 (al0 o1 (hs.rh.dom o1 e1 k1) a1) (al0 o2 (hs.rh.dom o2 e2 k2) a2) hb
  · refine hs.bxr.mono sub ?_
    intro k b hk o e' he how'
    rcases ent o e' he with ⟨rfl, rfl⟩ | ⟨hne, he⟩
    · rintro rfl; exact hbox k hk
    · exact hs.bxr.apart k b hk o e' he how'
end
end Am
end Go.Proofs.YtfhlblclcdhbiaaGreatDoor
namespace Go.Proofs.YtfhlblclcdhbiaaGreatDoor
open Go
set_option linter.unusedVariables false
set_option linter.unusedSimpArgs false
namespace Am
/-- What an action comes to, from a bundle of states. -/
def Acts (P : Program) (B0 : Nat) (β0 : Bt) (h0 : AH) (w0 : World) (nt : Nat) (tmps : Array Value) (w : World) (s : Sem Next) (K : TV → Fr → AH → Prop) : Prop :=
  ∃ v fr' h', K v fr' h' ∧ ∃ β' lam' v' w', (s.run P w = .ok (.value v') w' ∨ (s.run P w = .ok .skip w' ∧ v' = undef)) ∧ St B0 β0 h0 w0 nt β' lam' fr' h' tmps w' ∧ TR β' lam' v v'
section
variable {P : Program} {B0 nt : Nat} {β0 β : Bt} {h0 h : AH} {w0 w : World} {lam : Lam} {fr : Fr} {act : Act} {C : CT} {K : TV → Fr → AH → Prop}

theorem St.at_ (hs : St B0 β0 h0 w0 nt β lam fr h act.tmps w) : At P B0 w0.heap.size β lam fr h w act := ⟨hs.frr, hs.bxr, hs.rh⟩

theorem a_lbox (hs : St B0 β0 h0 w0 nt β lam fr h act.tmps w) {t : TypeId} {x : Operand} {k : Nat} {a : X} (hx : cX x = some a) (hK : wO C (.lbox k a) fr K h) :
    Acts P B0 β0 h0 w0 nt act.tmps w (do pure (.value (← Instr.box t (act.eval x)))) K := by
  simp only [wO] at hK
  split at hK
  · rename_i v hv
    split at hK
    · rename_i hc
      obtain ⟨hw, hk⟩ := hc
      have hr := wr_cl (vr_w (vl_sound hs.frr hx hv) hw)
      have := hs.box hk (c := (act.eval x).cells) (t := t) hr
      refine ⟨_, _, _, hK, β, _, .pointer (some ⟨w.heap.size, 0, none⟩), _, .inl ?_, this, .l (List.getElem?_set_self (by rw [hs.bxr.len]; exact hk)) (Nat.le_refl _) fun _ => rfl⟩
      simp [Instr.box, newVar, newRow]
    · exact hK.elim
  · exact hK.elim
theorem a_lalloc (hs : St B0 β0 h0 w0 nt β lam fr h act.tmps w) {t : TypeId} {k : Nat} {z : List Value} (hz : zeT P t = some z) (hK : wO C (.lalloc k z) fr K h) :
    Acts P B0 β0 h0 w0 nt act.tmps w (do pure (.value (← Instr.alloc t true (.tuple #[])))) K := by
  simp only [wO] at hK
  split at hK
  · rename_i hk
    obtain ⟨v, h1, h2, h3, _⟩ := zeT_run (β := β) hz w
    have := hs.box hk (c := v.cells) (t := t) (by rw [h2]; exact h3)
    refine ⟨_, _, _, hK, β, _, .pointer (some ⟨w.heap.size, 0, none⟩), _, .inl ?_, this, .l (List.getElem?_set_self (by rw [hs.bxr.len]; exact hk)) (Nat.le_refl _) fun _ => rfl⟩
    simp [Instr.alloc, h1, newVar, newRow]
  · exact hK.elim
theorem a_hbox (hs : St B0 β0 h0 w0 nt β lam fr h act.tmps w) {t : TypeId} {x : Operand} {a : X} (hx : cX x = some a) (hK : wO C (.hbox a) fr K h) :
    Acts P B0 β0 h0 w0 nt act.tmps w (do pure (.value (← Instr.box t (act.eval x)))) K := by
  simp only [wO] at hK
  split at hK
  · rename_i v hv
    split at hK
    · rename_i hw
      have hr := wr_cl (vr_w (vl_sound hs.frr hx hv) hw)
      have := hs.mkO (c := (act.eval x).cells) (t := t) (z := 1) (cs := cl v) ⟨_, by have := hr.len; simp at this; omega, rfl, by rw [hr.len, List.take_length]; exact hr⟩
      refine ⟨_, _, _, hK, _, lam, .pointer (some ⟨w.heap.size, 0, none⟩), _, .inl ?_, this, .v (.base (.ptr (addE_at _ _)))⟩
      simp [Instr.box, newVar, newRow]
    · exact hK.elim
  · exact hK.elim
theorem a_halloc (hs : St B0 β0 h0 w0 nt β lam fr h act.tmps w) {t : TypeId} {z : List Value} (hz : zeT P t = some z) (hK : wO C (.halloc z) fr K h) :
    Acts P B0 β0 h0 w0 nt act.tmps w (do pure (.value (← Instr.alloc t true (.tuple #[])))) K := by
  simp only [wO] at hK
  obtain ⟨v, h1, h2, h3, _⟩ := zeT_run (β := β) hz w
  have hl : z.length = v.cells.size := by rw [← h2]; simp
  have := hs.mkO (c := v.cells) (t := t) (z := 1) (cs := z) ⟨_, by omega, rfl, by rw [h2, List.take_length]; exact h3⟩
  refine ⟨_, _, _, hK, _, lam, .pointer (some ⟨w.heap.size, 0, none⟩), _, .inl ?_, this, .v (.base (.ptr (addE_at _ _)))⟩
  simp [Instr.alloc, h1, newVar, newRow]

theorem run_storeVar {t : TypeId} {n : Nat} (hn : szT P t = some n) {u : Value} (hu : u.cells.toList.length = n) {b o : Nat} {c : Array Value} {ty : TypeId} (hb : w.heap[b]? = some (.cells c ty (0, 0)))
    (hf : o + u.cells.toList.length ≤ c.size) (h1 : ∀ v ∈ u.cells.toList, v.oneCell' = true) :
    (Instr.storeAt t (.pointer (some ⟨b, o, none⟩)) u).run P w = .ok () (w.setRow b (c.toList.take o ++ u.cells.toList ++ c.toList.drop (o + u.cells.toList.length)).toArray) := by
  have key := run_storeCells_at P b o ty u.cells.toList 0 c w hb (by simpa using hf) h1
  simp only [Nat.add_zero] at key
  have hsz : u.cells.size = n := by simpa using hu
  simp [Instr.storeAt, Instr.sureAddr, storeVar, szT_run hn, hsz, key]
theorem a_store (hs : St B0 β0 h0 w0 nt β lam fr h act.tmps w) (d0 : ∀ o e, β0 o = some e → o < h0.ob.length) {t : TypeId} {n : Nat} (hn : szT P t = some n) {p x : Operand} {a y : X} (hp : cX p = some a) (hx : cX x = some y) (hK : wO C (.store n a y) fr K h) :
    Acts P B0 β0 h0 w0 nt act.tmps w (do Instr.storeAt t (act.eval p) (act.eval x); pure .skip) K := by
  simp only [wO] at hK
  split at hK
  · rename_i o off v hav hv
    split at hK
    · rename_i hc
      obtain ⟨hw, hl⟩ := hc
      split at hK
      · rename_i h' hwr
        obtain ⟨e, he, hpe⟩ := ad_sound hs.frr hp hav
        have hr := wr_cl (vr_w (vl_sound hs.frr hx hv) hw)
        obtain ⟨c, ty, h1, h2, h3⟩ := hs.write d0 he hr hwr
        refine ⟨_, _, _, hK, β, lam, undef, _, .inr ⟨?_, rfl⟩, h3, .v .undef⟩
        have := run_storeVar (P := P) (w := w) hn (u := act.eval x) (by rw [← hr.len]; exact hl) h1 h2 (a2_one hr)
        rw [hpe]
        simp [this]
      · exact hK.elim
    · exact hK.elim
  · exact hK.elim
theorem a_lstore (hs : St B0 β0 h0 w0 nt β lam fr h act.tmps w) (b00 : B0 ≤ w0.heap.size) {t : TypeId} {n : Nat} (hn : szT P t = some n) {p x : Operand} {a y : X} (hp : cX p = some a) (hx : cX x = some y) (hK : wO C (.lstore n a y) fr K h) :
    Acts P B0 β0 h0 w0 nt act.tmps w (do Instr.storeAt t (act.eval p) (act.eval x); pure .skip) K := by
  simp only [wO] at hK
  split at hK
  · rename_i k g off v hav hv
    split at hK
    · rename_i hc
      obtain ⟨hw, hl⟩ := hc
      split at hK
      · rename_i gb cs hcs
        split at hK
        · rename_i hgb
          split at hK
          · rename_i cs' hov
            obtain ⟨g2, b, b', hb, hle, hbb, hpe⟩ := ad_sound hs.frr hp hav
            have hr := wr_cl (vr_w (vl_sound hs.frr hx hv) hw)
            obtain ⟨_, g3, cs3, _, _, hl3, hx3, _⟩ := hs.bxr.box k b (by simp [blk, hb])
            rw [hb] at hl3
            rw [hcs] at hx3
            cases hl3
            cases hx3
            have := hbb hgb
            subst this
            subst hgb
            obtain ⟨c, ty, h1, h2, h3⟩ := hs.lwrite (b := b') b00 (by simp [blk, hb]) hcs hr hov
            refine ⟨_, _, _, hK, β, lam, undef, _, .inr ⟨?_, rfl⟩, h3, .v .undef⟩
            have := run_storeVar (P := P) (w := w) hn (u := act.eval x) (by rw [← hr.len]; exact hl) h1 h2 (a2_one hr)
            rw [hpe]
            simp [this]
          · exact hK.elim
        · exact hK.elim
      · exact hK.elim
    · exact hK.elim
  · exact hK.elim

theorem madeCells_reps (z : Array Value) (hz : 0 < z.size) : ∀ n, (madeCells z (n * z.size)).toList = reps z.toList n := by
  have key : ∀ n m, ((List.range (n * z.size)).map fun i => z[(m * z.size + i) % z.size]!) = reps z.toList n := by
    intro n
    induction n with
    | zero => intro m; simp [reps]
    | succ n ih =>
      intro m
      rw [Nat.add_mul, Nat.one_mul, Nat.add_comm, List.range_add, List.map_append, List.map_map]
      simp only [reps]
      congr 1
      · apply List.ext_getElem
        · simp
        · intro i h1 h2
          simp at h1
          have : (m * z.size + i) % z.size = i := by rw [Nat.add_comm, Nat.add_mul_mod_self_right]; exact Nat.mod_eq_of_lt h1
          simp [Nat.mod_eq_of_lt h1, h1]
      · rw [← ih (m + 1)]
        apply List.map_congr_left
        intro i _
        simp only [Function.comp]
        congr 2
        rw [Nat.add_mul]
        omega
  intro n
  have := key n 0
  simp only [Nat.zero_mul, Nat.zero_add] at this
  simpa [madeCells] using this
theorem reps_len (z : List Value) : ∀ n, (reps z n).length = n * z.length
  | 0 => by simp [reps]
  | n + 1 => by simp [reps, reps_len z n, Nat.add_mul]; omega
theorem reps_rel {z z' : List Value} (hz : A2 (CR β) z z') : ∀ n, A2 (CR β) (reps z n) (reps z' n)
  | 0 => .nil
  | n + 1 => hz.append (reps_rel hz n)
theorem szT_info {t : TypeId} {n : Nat} (h : szT P t = some n) : ∃ i, P.info? t = some i ∧ i.size = n := by
  unfold szT at h
  simp only [Option.map_eq_some_iff] at h
  exact h
theorem byT_info {t : TypeId} {n : Nat} (h : byT P t = some n) : ∃ i, P.info? t = some i ∧ i.bytes = n := by
  unfold byT at h
  simp only [Option.map_eq_some_iff] at h
  exact h
theorem zeT_info {t : TypeId} {z : List Value} (h : zeT P t = some z) : ∃ i v, P.info? t = some i ∧ i.zero = some v ∧ v.cells.toList = z ∧ (∀ β, A2 (CR β) z z) := by
  have h' := h
  unfold zeT at h'
  split at h'
  · rename_i i hi
    split at h'
    · rename_i v hv
      refine ⟨i, v, hi, hv, ?_, fun β => ?_⟩
      · obtain ⟨v', h1, h2, _⟩ := zeT_run (β := fun _ => none) h (default : World)
        simp only [zeroValue, Sem.run_bind, typeInfo, Sem.run_map, run_program, Result.andThen_ok, hi, hv, Sem.run_pure] at h1
        cases h1
        exact h2
      · exact (zeT_run (β := β) h (default : World)).choose_spec.2.2.1
    · cases h'
  · cases h'
theorem elT_und {t e : TypeId} (h : elT P t = some e) : P.underlying t = some (.slice e) := by
  unfold elT at h
  split at h
  · rename_i e' hu; cases h; exact hu
  · cases h
theorem a_mk (hs : St B0 β0 h0 w0 nt β lam fr h act.tmps w) {t e : TypeId} {n m : Nat} {z : List Value} (ht : elT P t = some e) (hn : szT P e = some n) (hm : byT P e = some m) (hz : zeT P e = some z) (hzl : z.length = n) (hn0 : n ≠ 0)
    {l c : Operand} {a b : X} (hl : cX l = some a) (hc : cX c = some b) (hK : wO C (.mk n m z a b) fr K h) :
    Acts P B0 β0 h0 w0 nt act.tmps w (do pure (.value (← Instr.makeSlice t (act.eval l) (act.eval c)))) K := by
  simp only [wO] at hK
  split at hK
  · rename_i n1 m1 hv1 hv2
    split at hK
    · rename_i hcond
      obtain ⟨hnm, h1, h2, h3⟩ := hcond
      have e1 := vr_int (vl_sound hs.frr hl hv1)
      have e2 := vr_int (vl_sound hs.frr hc hv2)
      obtain ⟨i, hi, hsz⟩ := szT_info hn
      obtain ⟨i2, hi2, hby⟩ := byT_info hm
      obtain ⟨i3, v, hi3, hzv, hcl, hself⟩ := zeT_info hz
      rw [hi] at hi2 hi3
      cases hi2
      cases hi3
      have hrun := run_make (P := P) w t e i v (elT_und ht) hi hzv .i64 .i64 n1 m1 h1 hnm (by rw [hby]; exact h3) (by omega)
      have hzs : v.cells.size = n := by rw [← hzl, ← hcl]; simp
      have hmc := madeCells_reps v.cells (by omega) m1.toNat
      rw [hcl, hzs] at hmc
      have hlen : (reps z m1.toNat).length = m1.toNat * n := by rw [reps_len, hzl]
      have hsize : (madeCells v.cells (m1.toNat * n)).size = m1.toNat * n := size_madeCells _ _
      have := hs.mkO (c := madeCells v.cells (m1.toNat * n)) (t := e) (z := n) (cs := reps z m1.toNat) ⟨_, by omega, rfl, by rw [hmc, List.take_length]; exact reps_rel (hself β) _⟩
      refine ⟨_, _, _, hK, _, lam, .slice (some ⟨w.heap.size, 0, none⟩) n1.toNat m1.toNat, _, .inl ?_, this, .v (.base (.sl (addE_at _ _) (by omega) (Nat.le_refl _) (fun h => h) fun _ => ?_))⟩
      · rw [e1, e2]
        simp only [Sem.run_bind, hrun, Result.andThen_ok, Sem.run_pure, hsz]
      · simp only [Nat.zero_add]
        omega
    · exact hK.elim
  · exact hK.elim
theorem cPartsS_A (sz : Nat) : ∀ {xs : List (Nat × Operand)} {l : List (Nat × X)}, cPartsS xs = some l → cPartsA sz xs = some (l.map fun p => (p.1 * sz, sz, p.2))
  | [], l, h => by simp only [cPartsS, Option.some.injEq] at h; subst h; rfl
  | (i, x) :: r, l, h => by
    simp only [cPartsS] at h
    split at h
    · rename_i a l' ha hl
      cases h
      simp only [cPartsA, ha, cPartsS_A sz hl, List.map_cons]
    · cases h
theorem a_bsl (hs : St B0 β0 h0 w0 nt β lam fr h act.tmps w) {t e : TypeId} {n s : Nat} {z : List Value} (ht : elT P t = some e) (hn : szT P e = some s) (hz : zeT P e = some z) (hzl : z.length = s) (hs0 : s ≠ 0) (hlim : n * s ≤ 16777216)
    {parts : Array (Nat × Operand)} {l : List (Nat × X)} (hp : cPartsS parts.toList = some l) (hK : wO C (.bsl s n z l) fr K h) :
    Acts P B0 β0 h0 w0 nt act.tmps w (do pure (.value (← Instr.buildSlice t n (parts.map fun (i, x) => (i, act.eval x))))) K := by
  simp only [wO] at hK
  split at hK
  · rename_i ps hps
    split at hK
    · rename_i cs hcs
      obtain ⟨i3, v, hi3, hzv, hcl, hself⟩ := zeT_info hz
      have hzs : v.cells.size = s := by rw [← hzl, ← hcl]; simp
      have hrel := partsA_rel (β := β) (sz := s) hs.frr (cPartsS_A s hp) hps
      have hmc := madeCells_reps v.cells (by omega) n
      rw [hcl, hzs] at hmc
      obtain ⟨l', hl', hr⟩ := fill_run (place := fun i => some (i * s, s)) (cells' := madeCells v.cells (n * s)) hrel (by rw [hmc]; exact reps_rel (hself β) n) hcs
      have hlen := hr.len
      have hN : n * s ≤ l'.size := by
        have e0 : ∀ {ps : List (Nat × List Value)} {c l : List Value}, fillC c ps = some l → l.length = c.length := by
          intro ps
          induction ps with
          | nil => intro c l h; simp only [fillC, Option.some.injEq] at h; rw [h]
          | cons p ps ih =>
            intro c l h
            obtain ⟨off, vs⟩ := p
            simp only [fillC] at h
            split at h
            · rename_i cs' hcs'
              rw [ih h, over_len hcs']
            · cases h
        have := e0 hcs
        rw [reps_len, hzl] at this
        simp at hlen
        omega
      have := hs.mkO (c := l') (t := e) (z := s) (cs := cs) ⟨_, by simp at hlen; omega, rfl, by rw [hlen, List.take_length]; exact hr⟩
      refine ⟨_, _, _, hK, _, lam, .slice (some ⟨w.heap.size, 0, none⟩) n n, _, .inl ?_, this, .v (.base (.sl (addE_at _ _) (Nat.le_refl _) (Nat.le_refl _) (fun h => h) fun _ => ?_))⟩
      · have e : (parts.map fun (i, x) => (i, act.eval x)).toList = parts.toList.map fun (i, x) => (i, act.eval x) := by simp
        by_cases hns : n * s = 0
        · have hmk : (madeCells v.cells (n * s)) = #[] := by simp [madeCells, hns]
          rw [hmk] at hl'
          simp [Instr.buildSlice, run_underlying (elT_und ht), szT_run hn, hns, hl', newRow, Array.range_zero']
        · have hlim' : ¬ (16777216 < n * s) := by omega
          have hl2 := hl'
          simp only [madeCells] at hl2
          simp [Instr.buildSlice, run_underlying (elT_und ht), szT_run hn, hns, hlim', zeroValue, typeInfo, hi3, hzv, hl2, newRow]
      · simp only [Nat.zero_add]
        exact hN
    · exact hK.elim
  · exact hK.elim
end
end Am
end Go.Proofs.YtfhlblclcdhbiaaGreatDoor
namespace Go.Proofs.YtfhlblclcdhbiaaGreatDoor
open Go
set_option linter.unusedVariables false
set_option linter.unusedSimpArgs false
namespace Am
section
variable {P : Program} {B0 nt : Nat} {β0 β : Bt} {h0 h : AH} {w0 w : World} {lam : Lam} {fr : Fr} {act : Act} {C : CT} {K : TV → Fr → AH → Prop}

theorem elT_runs {t e : TypeId} (h : elT P t = some e) (w : World) : (underlying t).run P w = .ok (.slice e) w := run_underlying (elT_und h) w
/-- the cells that are appended -/
theorem news_run (hr : RH B0 β h w) {b : Option Addr} {m mc sz : Nat} {x' : Value} (hx : VR β (.slice b m mc) x') {new : List Value}
    (hnew : (if m = 0 then some [] else match b with | some ⟨o, off, none⟩ => rd h o off (m * sz) | _ => none) = some new) :
    ∃ us : List Value, us.length = m * sz ∧ A2 (CR β) new us ∧ (∃ b' c', x' = .slice b' m c' ∧
      ∀ w', (∀ a u, w.cell? a = some u → w'.cell? a = some u) → (Builtin.firstCells sz m x').run P w' = .ok us.toArray w') := by
  by_cases hm : m = 0
  · subst hm
    simp only [if_true, Option.some.injEq] at hnew
    subst hnew
    refine ⟨[], by simp, .nil, ?_⟩
    cases b with
    | none =>
      obtain ⟨_, _, rfl⟩ := vr_snil hx
      exact ⟨none, 0, rfl, fun w' _ => by simp [Builtin.firstCells]⟩
    | some p =>
      obtain ⟨o, off, e, c', rfl, rfl, _⟩ := vr_slice hx
      exact ⟨_, _, rfl, fun w' _ => by simp [Builtin.firstCells, loadCells, loadCellsFrom]⟩
  · rw [if_neg hm] at hnew
    cases b with
    | none => cases hnew
    | some p =>
      obtain ⟨o, off, e, c', rfl, rfl, he, _⟩ := vr_slice hx
      obtain ⟨h1, us, h2, h3, h4⟩ := rd_cells hr he hnew
      refine ⟨us, h2, h3, _, _, rfl, fun w' hw' => ?_⟩
      exact run_firstCells_some w' sz m _ m c' us h2 fun j v hj => by rw [addr_add]; exact hw' _ _ (h4 j v hj)

/-- no room: the row anew -/
theorem run_regrow {t u ty e : TypeId} {i : TypeInfo} {z : Value} (ht : elT P t = some e) {e2 : TypeId} (hu : elT P u = some e2) (hi : P.info? e = some i) (hz : i.zero = some z) {sz : Nat} (hsz : i.size = sz)
    {base : Option Addr} {n c m mc : Nat} {x' : Value} {b' : Option Addr} (hx : x' = .slice b' m mc) {olds news : List Value}
    (ho : (Builtin.firstCells sz n (.slice base n c)).run P w.drew = .ok olds.toArray w.drew) (hn : (Builtin.firstCells sz m x').run P w.drew = .ok news.toArray w.drew)
    (hg : c < n + m) (hby0 : 0 < i.bytes) (hby : (n + m) * i.bytes ≤ 140737488355328) :
    (Builtin.append_ #[t, u] ty #[.slice base n c, x']).run P w =
      .ok (.slice (some ⟨w.heap.size, 0, none⟩) (n + m) (grownCap w (n + m) c e))
        (w.drew.alloc (.cells (olds ++ news ++ (Builtin.zeroCells z.cells (grownCap w (n + m) c e - (n + m))).toList).toArray e)) := by
  subst hx
  have h1 : n + m ≤ (n + m) * i.bytes := Nat.le_mul_of_pos_right _ hby0
  have hn' : ¬ (n + m ≤ c) := by omega
  have h63' : ¬ (9223372036854775807 < ((n : Int) + (m : Int))) := by omega
  have h48 := growslice_fits hg hby
  have h48' : ¬ (281474976710656 < Builtin.nextslicecap (n + m) c * i.bytes) := by omega
  simp [Builtin.append_, elT_runs ht, elT_runs hu, sizeOf, typeInfo, zeroValue, hi, hz, hsz, Builtin.lenOf, hn', h63', h48', Question.forced, ho, hn, newRow, grownCap]
  congr 2
  apply Array.ext'
  simp [List.append_assoc]
/-- room: in its place -/
theorem run_inplace {t u ty e : TypeId} (ht : elT P t = some e) {e2 : TypeId} (hu : elT P u = some e2) {sz : Nat} (hsz : szT P e = some sz)
    {b o n c m mc : Nat} {x' : Value} {b' : Option Addr} (hx : x' = .slice b' m mc) {news : List Value} (hn : (Builtin.firstCells sz m x').run P w = .ok news.toArray w)
    {cur : Array Value} {ty' : TypeId} (hb : w.heap[b]? = some (.cells cur ty' (0, 0))) (hfit : o + n * sz + news.length ≤ cur.size) (h1 : ∀ v ∈ news, v.oneCell' = true) (hroom : n + m ≤ c) :
    (Builtin.append_ #[t, u] ty #[.slice (some ⟨b, o, none⟩) n c, x']).run P w =
      .ok (.slice (some ⟨b, o, none⟩) (n + m) c) (w.setRow b (cur.toList.take (o + n * sz) ++ news ++ cur.toList.drop (o + n * sz + news.length)).toArray) := by
  subst hx
  have hst := run_storeCells_at P b (o + n * sz) ty' news 0 cur w hb (by simpa using hfit) h1
  simp only [Nat.add_zero] at hst
  simp [Builtin.append_, elT_runs ht, elT_runs hu, szT_run hsz, Builtin.lenOf, hroom, hn, addr_add, hst]
theorem run_nothing {t u ty e : TypeId} (ht : elT P t = some e) {e2 : TypeId} (hu : elT P u = some e2) {sz : Nat} (hsz : szT P e = some sz)
    {base : Option Addr} {n c mc : Nat} {x' : Value} {b' : Option Addr} (hx : x' = .slice b' 0 mc) (hn : (Builtin.firstCells sz 0 x').run P w = .ok #[] w) (hroom : n ≤ c) :
    (Builtin.append_ #[t, u] ty #[.slice base n c, x']).run P w = .ok (.slice base n c) w := by
  subst hx
  cases base with
  | none => simp [Builtin.append_, elT_runs ht, elT_runs hu, szT_run hsz, Builtin.lenOf, hroom, hn]
  | some a => simp [Builtin.append_, elT_runs ht, elT_runs hu, szT_run hsz, Builtin.lenOf, hroom, hn, storeCells]

theorem St.regrown (hs : St B0 β0 h0 w0 nt β lam fr h act.tmps w) {olds news : List Value} {us : List Value} {rest : Array Value} {e : TypeId} {sz : Nat} (hr : A2 (CR β) (olds ++ news) us) :
    St B0 β0 h0 w0 nt (addE β h.ob.length ⟨w.heap.size, 0, us.length + rest.size, sz, true⟩) lam fr (Am.mkO h sz (olds ++ news)) act.tmps (w.drew.alloc (.cells (us ++ rest.toList).toArray e)) := by
  have hl := hr.len
  have := (hs.drawn (w.drawn + 1)).mkO (c := (us ++ rest.toList).toArray) (t := e) (z := sz) (cs := olds ++ news) ⟨_, by simp at hl ⊢; omega, rfl, by
    simp only [List.toList_toArray]
    rw [hl, List.take_left]
    exact hr⟩
  simpa using this
set_option maxHeartbeats 1000000 in
theorem a_app (hs : St B0 β0 h0 w0 nt β lam fr h act.tmps w) (d0 : ∀ o e, β0 o = some e → o < h0.ob.length) {t u ty e : TypeId} {sz bytes : Nat} {z : List Value} (ht : elT P t = some e) {e2 : TypeId} (hu : elT P u = some e2) (hsz : szT P e = some sz) (hby : byT P e = some bytes) (hz : zeT P e = some z) (hby0 : 0 < bytes) (hzl : z.length = sz)
    {s x : Operand} {a b : X} (hsx : cX s = some a) (hxx : cX x = some b) (hK : wO C (.app sz bytes a b) fr K h) :
    Acts P B0 β0 h0 w0 nt act.tmps w (do pure (.value (← Builtin.append_ #[t, u] ty #[act.eval s, act.eval x]))) K := by
  obtain ⟨i, hi, hisz⟩ := szT_info hsz
  obtain ⟨i2, hi2, hiby⟩ := byT_info hby
  obtain ⟨i3, zv, hi3, hzv, hzc, hself⟩ := zeT_info hz
  rw [hi] at hi2 hi3
  cases hi2
  cases hi3
  have hzs : zv.cells.size = sz := by rw [← hzl, ← hzc]; simp
  simp only [wO] at hK
  split at hK
  case h_2 => exact hK.elim
  rename_i p n c b1 m mc hvs hvx
  have hrs := vl_sound hs.frr hsx hvs
  have hrx := vl_sound hs.frr hxx hvx
  split at hK
  · exact hK.elim
  rename_i new hnew
  obtain ⟨us, hul, hua, b', c1, hxe, hrun⟩ := news_run (P := P) hs.rh hrx hnew
  have hrunw := hrun w fun _ _ h => h
  have hrund := hrun w.drew fun _ _ h => h
  generalize hS : act.eval s = s' at hrs ⊢
  generalize hX : act.eval x = x' at hrx hxe hrunw hrund ⊢
  split at hK
  · rename_i hc
    obtain ⟨rfl, hnc⟩ := hc
    have hus : us = [] := List.eq_nil_of_length_eq_zero (by omega)
    subst hus
    refine ⟨_, _, _, hK, β, lam, s', w, .inl ?_, hs, .v hrs⟩
    have : ∃ base c', s' = .slice base n c' ∧ n ≤ c' := by
      cases p with
      | none => obtain ⟨rfl, rfl, rfl⟩ := vr_snil hrs; exact ⟨_, _, rfl, by omega⟩
      | some p => obtain ⟨o, off, e', c', rfl, rfl, _, h1, h2, _⟩ := vr_slice hrs; exact ⟨_, _, rfl, by omega⟩
    obtain ⟨base, c', rfl, hc'⟩ := this
    simp [run_nothing ht hu hsz hxe hrunw hc']
  rename_i hnot
  split at hK
  · rename_i hroom
    cases p with
    | none => obtain ⟨rfl, rfl, rfl⟩ := vr_snil hrs; omega
    | some p =>
      obtain ⟨o, off, e', c', rfl, rfl, he', h1, h2, h3, h4⟩ := vr_slice hrs
      simp only at hK
      split at hK
      · rename_i h' hw
        obtain ⟨cur, ty', hb, hfit, hst⟩ := hs.write d0 he' hua hw
        refine ⟨_, _, _, hK, β, lam, .slice (some ⟨e'.b, e'.sh + off, none⟩) (n + m) c', _, .inl ?_, hst, .v (.base (.sl he' hroom h2 h3 h4))⟩
        have := run_inplace (P := P) (ty := ty) ht hu hsz hxe hrunw (o := e'.sh + off) (n := n) (c := c') hb (by omega) (a2_one hua) (by omega)
        simp only [Sem.run_bind, this, Result.andThen_ok, Sem.run_pure]
        congr 4
        · congr 2 <;> omega
        · congr 1; omega
      · exact hK.elim
  rename_i hno
  split at hK
  rotate_left
  · exact hK.elim
  rename_i hfits
  have hbytes : (n + m) * i.bytes ≤ 140737488355328 := by rw [hiby]; exact hfits
  cases p with
  | none =>
    obtain ⟨rfl, rfl, rfl⟩ := vr_snil hrs
    simp only [if_true] at hK
    have ho : (Builtin.firstCells sz 0 (.slice none 0 0)).run P w.drew = .ok ([] : List Value).toArray w.drew := by simp [Builtin.firstCells]
    have hrunA := run_regrow (P := P) (ty := ty) (w := w) ht hu hi hzv hisz hxe ho hrund (by omega) (by omega) hbytes
    have hge := grownCap_ge w (0 + m) 0 e
    have hst := hs.regrown (olds := []) (us := us) (rest := Builtin.zeroCells zv.cells (grownCap w (0 + m) 0 e - (0 + m))) (e := e) (sz := sz) (by simpa using hua)
    refine ⟨_, _, _, hK, _, lam, .slice (some ⟨w.heap.size, 0, none⟩) (0 + m) (grownCap w (0 + m) 0 e), _, .inl ?_, hst, .v (.base (.sl (addE_at _ _) (Nat.le_refl _) hge (by omega) fun _ => ?_))⟩
    · simp only [Sem.run_bind, hrunA, Result.andThen_ok, Sem.run_pure, List.nil_append]
    · simp only [Nat.zero_add] at hge
      simp only [size_zeroCells, hzs, hul, Nat.zero_add, ← Nat.add_mul]
      refine Nat.le_of_eq ?_
      congr 1
      omega
  | some p =>
    obtain ⟨o, off, e', c', rfl, rfl, he', h1, h2, h3, h4⟩ := vr_slice hrs
    simp only at hK
    split at hK
    rotate_left
    · exact hK.elim
    rename_i old z' cs' hrd hob
    obtain ⟨hol, ous, hol2, hoa, hoc⟩ := rd_cells hs.rh he' hrd
    have hfo : ∀ w', (∀ a u, w.cell? a = some u → w'.cell? a = some u) → (Builtin.firstCells sz n (.slice (some ⟨e'.b, e'.sh + off, none⟩) n c')).run P w' = .ok ous.toArray w' := fun w' hw' =>
      run_firstCells_some w' sz n _ n c' ous hol2 fun j v hj => by rw [addr_add]; exact hw' _ _ (hoc j v hj)
    have hboth : A2 (CR β) (old ++ new) (ous ++ us) := hoa.append hua
    have regrow : ∀ {h2 : AH}, c' < n + m → St B0 β0 h0 w0 nt β lam fr h2 act.tmps w → h2.ob.length = h.ob.length →
        K (.v (.slice (some ⟨h.ob.length, 0, none⟩) (n + m) (n + m))) fr (mkO h2 sz (old ++ new)) →
        Acts P B0 β0 h0 w0 nt act.tmps w (do pure (.value (← Builtin.append_ #[t, u] ty #[.slice (some ⟨e'.b, e'.sh + off, none⟩) n c', x']))) K := by
      intro h2 hlt hs2 hlen hK2
      have hrunA := run_regrow (P := P) (ty := ty) (w := w) ht hu hi hzv hisz hxe (hfo w.drew fun _ _ h => h) hrund hlt (by omega) hbytes
      have hge := grownCap_ge w (n + m) c' e
      have hst := hs2.regrown (olds := old) (news := new) (us := ous ++ us) (rest := Builtin.zeroCells zv.cells (grownCap w (n + m) c' e - (n + m))) (e := e) (sz := sz) hboth
      rw [hlen] at hst
      refine ⟨_, _, _, hK2, _, lam, .slice (some ⟨w.heap.size, 0, none⟩) (n + m) (grownCap w (n + m) c' e), _, .inl ?_, hst, .v (.base (.sl (addE_at _ _) (Nat.le_refl _) hge (by omega) fun _ => ?_))⟩
      · simp only [Sem.run_bind, hrunA, Result.andThen_ok, Sem.run_pure]
      · simp only [size_zeroCells, hzs, hul, hol2, List.length_append, Nat.zero_add, ← Nat.add_mul]
        refine Nat.le_of_eq ?_
        congr 1
        omega
    split at hK
    · rename_i hc0
      exact regrow (by have := h3 hc0; omega) hs rfl hK
    split at hK
    rotate_left
    · exact hK.elim
    rename_i hc0 hcond
    obtain ⟨hbar, rfl⟩ := hcond
    have hal : alive h o := ⟨_, _, hob⟩
    have how := own_of hs.rh he' hbar
    have hk := hs.kill hbar
    by_cases hroom : n + m ≤ c'
    · -- in its place: the new row takes the block over
      obtain ⟨g1, g2⟩ := hs.rh.cell o e' z' cs' he' hob
      obtain ⟨g3, g4⟩ := g1 how
      subst g3
      obtain ⟨k1, cur, ty', k2, k3⟩ := hs.rh.blk o e' he' how
      have hNN := h4 how
      have hmul : (n + m) * e'.sz ≤ c' * e'.sz := Nat.mul_le_mul_right _ hroom
      rw [Nat.add_mul] at hmul
      have hrunA := run_inplace (P := P) (ty := ty) ht hu hsz hxe hrunw (o := e'.sh + off) (n := n) (c := c') k2 (by omega) (a2_one hua) hroom
      have hfree : ∀ o' e'', β o' = some e'' → e''.own = true → alive (kill h o) o' → e''.b ≠ e'.b := by
        intro o' e'' he'' ho'' ha' hbb
        obtain ⟨hne, ha⟩ := kill_alive ha'
        exact hne (hs.rh.inj o' e'' o e' he'' he' ho'' how ha hal hbb)
      have hrow := hk.row (h' := kill h o) (c' := (cur.toList.take (e'.sh + off + n * e'.sz) ++ us ++ cur.toList.drop (e'.sh + off + n * e'.sz + us.length)).toArray) k2 (by simp; omega)
        (hs.mine d0 he' how hbar hal) (hs.notBox he' how) rfl rfl (fun _ _ => rfl) (fun _ h => h) (fun o2 ee zz cc hh hcc => ⟨⟨cc, hcc, rfl⟩, fun j y hj => by
          obtain ⟨hne, ha⟩ := kill_alive ⟨zz, cc, hcc⟩
          have hcc2 := hcc
          rw [kill_at hne] at hcc2
          obtain ⟨v, hv, hvr⟩ := (hs.rh.cell o2 ee zz cc hh hcc2).2 j y hj
          refine ⟨v, ?_, hvr⟩
          rw [cell_setRow_other _ _ _ _ ?_]
          · exact hv
          · show ee.b ≠ e'.b
            cases hoo : ee.own with
            | true => exact hfree o2 ee hh hoo ⟨zz, cc, hcc⟩
            | false => have := (hs.rh.ro o2 ee hh hoo).2; omega⟩)
      have hrowh := setRow_heap w e'.b cur (cur.toList.take (e'.sh + off + n * e'.sz) ++ us ++ cur.toList.drop (e'.sh + off + n * e'.sz + us.length)).toArray ty' _ k2
      have hll := hboth.len
      simp only [List.length_append, hol, hol2, hul] at hll
      have hmine : w0.heap.size ≤ e'.b ∨ ∃ o1 e1, β0 o1 = some e1 ∧ e1.own = true ∧ h0.bar ≤ o1 ∧ alive h0 o1 ∧ e1.b = e'.b := by
        rcases Nat.lt_or_ge e'.b w0.heap.size with hlt | hge
        · exact .inr (hs.mine d0 he' how hbar hal hlt)
        · exact .inl hge
      have hnb := hs.notBox he' how
      have hadd := hrow.addRow (e := ⟨e'.b, e'.sh + off, e'.N, e'.sz, true⟩) rfl k1 hrowh (by simp; omega) hmine hfree hnb (cs := old ++ new) (by simp only [List.length_append, hol]; rw [hua.len, hul]; omega) (fun j y hj => by
          obtain ⟨v, hv, hvr⟩ := hboth.get j y hj
          refine ⟨v, ?_, hvr⟩
          rw [cell_setRow_same _ _ _ _ _ _ _ k2]
          simp only [List.append_assoc, List.getElem?_toArray]
          have hjl : j < (ous ++ us).length := (List.getElem?_eq_some_iff.mp hv).1
          simp only [List.length_append] at hjl
          by_cases hjn : j < n * e'.sz
          · rw [List.getElem?_append_left (by simp; omega), List.getElem?_take_of_lt (by omega)]
            rw [List.getElem?_append_left (by omega)] at hv
            have := hoc j v hv
            simp only [World.cell?, k2] at this
            simpa using this
          · rw [List.getElem?_append_right (by omega)] at hv
            rw [List.getElem?_append_right (by simp; omega), List.getElem?_append_left (by simp; omega)]
            rw [← hv]
            congr 1
            simp
            omega)
      have hlen : (kill h o).ob.length = h.ob.length := by simp [kill]
      rw [hlen] at hadd
      refine ⟨_, _, _, hK, _, lam, .slice (some ⟨e'.b, e'.sh + off, none⟩) (n + m) c', _, .inl ?_, hadd, .v (.base (.sl (e := ⟨e'.b, e'.sh + off, e'.N, e'.sz, true⟩) (off := 0) (addE_at _ _) (Nat.le_refl _) hroom (by omega) fun _ => ?_))⟩
      · simp only [Sem.run_bind, hrunA, Result.andThen_ok, Sem.run_pure]
      · simp only [Nat.add_zero]; omega
    · exact regrow (by omega) hk (by simp [kill]) hK
end
end Am
end Go.Proofs.YtfhlblclcdhbiaaGreatDoor

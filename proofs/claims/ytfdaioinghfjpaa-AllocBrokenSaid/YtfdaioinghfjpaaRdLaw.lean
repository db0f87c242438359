/- RD, part 22: a law's arguments read as pure values; a law's walk out of its contract. -/
import Derived.Test.YtfdaioinghfjpaaRdTab
import Derived.Deep.Slices
import Derived.WalkKit
import Derived.ProofKit
namespace Go.Rd
open Go.RowKit Go.Proofs Go.ChangeShapes Go.WideShapes

/-- Behind a law: 'true', and nothing but new memory. -/
theorem law_walk {P : Program} {f : FuncId} {args : List AV} (h : ACv P f args fun v => v = bool true) (W : World) (vals : List Value) (hl : vals.length = args.length)
    (hv : ∀ (i : Nat) (y : AV) (u : Value), args[i]? = some y → vals[i]? = some u → RepA W (Gd W (fun _ _ => 0) fun _ _ => none) (fun _ _ => 0) (fun _ _ => none) y u) :
    Calls P f vals.toArray W fun e w' => e = .returned (.bool true) ∧ Below W.heap.size W w' := by
  have hA := (h 1 (fun _ _ => none) (by decide)).2 W (fun _ _ => 0) vals (fun _ _ _ => rfl) (fun _ _ _ _ h => by cases h) ⟨fun _ _ _ h => (by cases h), fun _ _ _ _ _ _ h => (by cases h)⟩ hl hv
  refine hA.mono ?_
  rintro e w' ⟨r, S', v, ι', ⟨rfl, tv, rfl, rfl⟩, rfl, _, _, _, hm, hr⟩
  have := (RepP.lit_inv hr).1
  subst this
  refine ⟨rfl, hm.os, hm.tape, hm.output, hm.size, fun k hk => hm.keep k hk ?_⟩
  rintro ⟨_, _, _, ho, _⟩
  cases ho

section
variable {H : Type} {enc : TypeId × Value → H} {P : Program} {w : World} {base : Nat} {held : Bool}

theorem fields_at {fs : Array Field} {l : List (Nat × TypeId)} (h : fs.toList.map (fun x => (x.offset, x.type)) = l) {i off : Nat} {t : TypeId} (hi : l[i]? = some (off, t)) : ∃ f, fs[i]? = some f ∧ f.offset = off ∧ f.type = t := by
  subst h
  rw [List.getElem?_map] at hi
  cases hf : fs.toList[i]? with
  | none => simp [hf] at hi
  | some f =>
    simp only [hf, Option.map_some, Option.some.injEq, Prod.mk.injEq] at hi
    exact ⟨f, by simpa using hf, hi.1, hi.2⟩
theorem struct_field {e t : TypeId} {l : List (Nat × TypeId)} {n : Nat} {cs : List Value} {y : DataW H × List MemPlace} (hs : structOf P e = some l) (h : DataW.trod enc P w base (fun _ => true) held n e cs = some y) {i off : Nat} (hi : l[i]? = some (off, t)) :
    cs.length = P.cellsOf e ∧ ∃ m y', DataW.trod enc P w base (fun _ => true) held m t ((cs.drop off).take (P.cellsOf t)) = some y' := by
  unfold structOf at hs
  split at hs
  · rename_i fs hfs
    simp only [Option.some.injEq] at hs
    obtain ⟨f, h1, rfl, rfl⟩ := fields_at hs hi
    obtain ⟨xs, m, _, _, hlen, hx, hf⟩ := DataW.trod_struct hfs h
    refine ⟨hlen, m, ?_⟩
    have hlt : i < fs.size := (Array.getElem?_eq_some_iff.1 h1).1
    exact ⟨xs[i]'(by omega), by rw [hf i f h1, List.getElem?_eq_getElem (by omega)]⟩
  · cases hs

/-- How an element's cells read. -/
def Reads (P : Program) (e : TypeId) (k : Nat) {α : Type} (el : α → List PV) (wf : α → Prop) : Prop :=
  P.cellsOf e = k ∧ ∀ (H : Type) (enc : TypeId × Value → H) (w : World) (base : Nat) (held : Bool) (n : Nat) (cs : List Value) (y : DataW H × List MemPlace), DataW.trod enc P w base (fun _ => true) held n e cs = some y →
    ∃ u : α, wf u ∧ (el u).length = k ∧ ∀ (j : Nat) (x : PV), (el u)[j]? = some x → ∃ v, cs[j]? = some v ∧ RepP w (Gd w (fun _ _ => 0) fun _ _ => none) x v

def encI (k : IntKind) (n : Int) : List PV := [.lit (.int k n)]
def encB (b : Bool) : List PV := [.lit (.bool b)]
theorem reads_int {e : TypeId} {k : IntKind} (ht : P.underlying e = some (.int k)) (hc : P.cellsOf e = 1) : Reads P e 1 (encI k) fun n => (Lit.int k n).wf = true := by
  refine ⟨hc, fun H enc w base held n cs y h => ?_⟩
  obtain ⟨m, rfl, _, hw⟩ := DataW.trod_int ht h
  refine ⟨m, hw, rfl, fun j x hj => ?_⟩
  cases j with
  | zero => cases hj; exact ⟨_, rfl, .lit _ rfl⟩
  | succ j => simp [encI] at hj
theorem reads_bool {e : TypeId} (ht : P.underlying e = some .bool) (hc : P.cellsOf e = 1) : Reads P e 1 encB fun _ => True := by
  refine ⟨hc, fun H enc w base held n cs y h => ?_⟩
  obtain ⟨m, rfl, _⟩ := DataW.trod_bool ht h
  refine ⟨m, trivial, rfl, fun j x hj => ?_⟩
  cases j with
  | zero => cases hj; exact ⟨_, rfl, .lit _ rfl⟩
  | succ j => simp [encB] at hj

theorem take_one {cs : List Value} {off : Nat} {v : Value} (h : (cs.drop off).take 1 = [v]) : cs[off]? = some v := by
  have := congrArg (fun l => l[0]?) h
  simpa using this
theorem field_int {e t : TypeId} {l : List (Nat × TypeId)} {n : Nat} {cs : List Value} {y : DataW H × List MemPlace} (hs : structOf P e = some l) (h : DataW.trod enc P w base (fun _ => true) held n e cs = some y) {i off : Nat} (hi : l[i]? = some (off, t))
    {k : IntKind} (ht : P.underlying t = some (.int k)) (hc : P.cellsOf t = 1) : ∃ m, cs[off]? = some (.int k m) ∧ (Lit.int k m).wf = true := by
  obtain ⟨_, m, y', h'⟩ := struct_field hs h hi
  rw [hc] at h'
  obtain ⟨z, hz, _, hw⟩ := DataW.trod_int ht h'
  exact ⟨z, take_one hz, hw⟩
theorem field_bool {e t : TypeId} {l : List (Nat × TypeId)} {n : Nat} {cs : List Value} {y : DataW H × List MemPlace} (hs : structOf P e = some l) (h : DataW.trod enc P w base (fun _ => true) held n e cs = some y) {i off : Nat} (hi : l[i]? = some (off, t))
    (ht : P.underlying t = some .bool) (hc : P.cellsOf t = 1) : ∃ b, cs[off]? = some (.bool b) := by
  obtain ⟨_, m, y', h'⟩ := struct_field hs h hi
  rw [hc] at h'
  obtain ⟨z, hz, _⟩ := DataW.trod_bool ht h'
  exact ⟨z, take_one hz⟩

/-- A slice that may be nil. -/
def slP {α : Type} (esz : Nat) (el : α → List PV) : Option (List α) → PV
  | none => .lit (.slice none 0 0)
  | some l => .row esz (l.map el)
def slA {α : Type} (esz : Nat) (el : α → List PV) (o : Option (List α)) : AV := .s (.pv (slP esz el o))

/-- The elements of a slice that reads, told. -/
theorem rows_read {e : TypeId} {k : Nat} {α : Type} {el : α → List PV} {wf : α → Prop} (hR : Reads P e k el wf) (hk : 0 < k) {a : Addr} {len0 cap0 n : Nat} {D : Nat → DataW H} {Pl : Nat → List MemPlace} (hl : len0 ≤ cap0) (hm : cap0 ≤ maxLen)
    (hel : ∀ i, i < cap0 → ∃ cs', w.cells? base (a.add (i * P.cellsOf e)) (P.cellsOf e) = some cs' ∧ DataW.trod enc P w base (fun _ => true) held n e cs' = some (D i, Pl i)) :
    ∃ l : List α, (∀ u ∈ l, wf u) ∧ RepP w (Gd w (fun _ _ => 0) fun _ _ => none) (.row k (l.map el)) (.slice (some a) len0 cap0) := by
  rcases Nat.eq_zero_or_pos cap0 with rfl | hpos
  · obtain rfl : len0 = 0 := by omega
    exact ⟨[], by simp, RepP.mk_rowS (es := []) (cap := 0) (.inr rfl) (by simp) (by omega) ⟨fun i x hx => by simp at hx, fun hne => absurd rfl hne, by simp, fun i j x y hx => by simp at hx⟩⟩
  obtain ⟨hc, hR⟩ := hR
  have hspot : a.spot = none := by
    obtain ⟨cs', h1, _⟩ := hel 0 hpos
    obtain ⟨_, hlen, hget⟩ := World.cells?_some h1
    have := hget 0 (by omega)
    rw [Nat.zero_mul] at this
    have e0 : (a.add 0).add 0 = a := by simp [Addr.add]
    rw [e0] at this
    rw [List.getElem?_eq_getElem (by omega)] at this
    exact World.cell?_spot this
  have hex : ∀ i, i < len0 → ∃ u : α, wf u ∧ (el u).length = k ∧ ∀ (j : Nat) (x : PV), (el u)[j]? = some x → ∃ v, w.cell? ⟨a.block, a.off + i * k + j, none⟩ = some v ∧ RepP w (Gd w (fun _ _ => 0) fun _ _ => none) x v := by
    intro i hi
    obtain ⟨cs', h1, h2⟩ := hel i (by omega)
    obtain ⟨u, q1, q2, q3⟩ := hR H enc w base held n cs' _ h2
    refine ⟨u, q1, q2, fun j x hx => ?_⟩
    obtain ⟨v, hv, hr⟩ := q3 j x hx
    refine ⟨v, ?_, hr⟩
    obtain ⟨_, hlen, hget⟩ := World.cells?_some h1
    have hj : j < cs'.length := (List.getElem?_eq_some_iff.1 hv).1
    have := hget j (by omega)
    rw [hc, Go.Deep.add_add] at this
    rw [hv] at this
    have e : a.add (i * k + j) = ⟨a.block, a.off + i * k + j, none⟩ := by
      unfold Addr.add
      split
      · rename_i h0
        obtain ⟨b, o, s⟩ := a
        simp only at hspot
        subst hspot
        simp only [Addr.mk.injEq, true_and, and_true]
        omega
      · simp
    rw [← e]
    exact this
  obtain ⟨l, hl1, hl2⟩ : ∃ l : List α, l.length = len0 ∧ ∀ i u, l[i]? = some u → wf u ∧ (el u).length = k ∧ ∀ (j : Nat) (x : PV), (el u)[j]? = some x → ∃ v, w.cell? ⟨a.block, a.off + i * k + j, none⟩ = some v ∧ RepP w (Gd w (fun _ _ => 0) fun _ _ => none) x v := by
    clear hel
    have : ∀ q, q ≤ len0 → ∃ l : List α, l.length = q ∧ ∀ i u, l[i]? = some u → wf u ∧ (el u).length = k ∧ ∀ (j : Nat) (x : PV), (el u)[j]? = some x → ∃ v, w.cell? ⟨a.block, a.off + i * k + j, none⟩ = some v ∧ RepP w (Gd w (fun _ _ => 0) fun _ _ => none) x v := by
      intro q
      induction q with
      | zero => exact fun _ => ⟨[], rfl, fun i u hu => by simp at hu⟩
      | succ q ih =>
        intro hq
        obtain ⟨l, h1, h2⟩ := ih (by omega)
        obtain ⟨u, hu⟩ := hex q (by omega)
        refine ⟨l ++ [u], by simp [h1], fun i u' hu' => ?_⟩
        rcases Nat.lt_or_ge i l.length with hi | hi
        · rw [List.getElem?_append_left hi] at hu'
          exact h2 i u' hu'
        · rw [List.getElem?_append_right hi] at hu'
          have : i - l.length = 0 := by
            have := (List.getElem?_eq_some_iff.1 hu').1
            simp at this; omega
          rw [this] at hu'
          simp only [List.getElem?_cons_zero, Option.some.injEq] at hu'
          subst hu'
          have : i = q := by omega
          subst this
          exact hu
    exact this len0 (Nat.le_refl _)
  refine ⟨l, fun u hu => ?_, ?_⟩
  · obtain ⟨i, hi⟩ := List.mem_iff_getElem?.1 hu
    exact (hl2 i u hi).1
  · have hv : Value.slice (some a) len0 cap0 = .slice (some ⟨a.block, a.off, none⟩) (l.map el).length cap0 := by
      obtain ⟨b, o, s⟩ := a
      simp only at hspot
      subst hspot
      simp [hl1]
    rw [hv]
    have cell : ∀ (i j : Nat) (x : List PV) (y : PV), (l.map el)[i]? = some x → x[j]? = some y → ∃ v, w.cell? ⟨a.block, a.off + i * k + j, none⟩ = some v ∧ RepP w (Gd w (fun _ _ => 0) fun _ _ => none) y v := by
      intro i j x y hx hy
      rw [List.getElem?_map] at hx
      cases hu : l[i]? with
      | none => simp [hu] at hx
      | some u =>
        simp only [hu, Option.map_some, Option.some.injEq] at hx
        subst hx
        exact (hl2 i u hu).2.2 j y hy
    refine RepP.mk_row (by simpa [hl1] using hl) hm ⟨fun i x hx => ?_, fun hne => ?_, by simp [hl1]; omega, cell⟩
    · rw [List.getElem?_map] at hx
      cases hu : l[i]? with
      | none => simp [hu] at hx
      | some u =>
        simp only [hu, Option.map_some, Option.some.injEq] at hx
        subst hx
        exact (hl2 i u hu).2.1
    · refine ⟨?_, fun ⟨_, _, _, ho, _⟩ => by cases ho⟩
      cases l with
      | nil => exact absurd rfl hne
      | cons u r =>
        have hlen : (el u).length = k := (hl2 0 u rfl).2.1
        obtain ⟨v, hv, _⟩ := (hl2 0 u rfl).2.2 0 ((el u)[0]'(by omega)) (List.getElem?_eq_getElem (by omega))
        exact World.block_lt_of_cell? w ⟨a.block, _, none⟩ hv
/-- A slice argument, read. -/
theorem arg_slice {t e : TypeId} {k : Nat} {α : Type} {el : α → List PV} {wf : α → Prop} {v : Value} {d : DataW H} {ps : List MemPlace} {r : Reach} {b0 : Nat} (ht : P.underlying t = some (.slice e)) (hR : Reads P e k el wf) (hk : 0 < k)
    (hval : Value.okWide P w r b0 t v) (h : DataW.Trod enc P w 0 (fun _ => true) held t v d ps) :
    v = .slice none 0 0 ∨ ∃ l : List α, (∀ u ∈ l, wf u) ∧ RepP w (Gd w (fun _ _ => 0) fun _ _ => none) (.row k (l.map el)) v := by
  obtain ⟨fuel, hf⟩ := h
  obtain ⟨a0, len0, cap0, rfl⟩ := okWide_slice ht hval
  rcases Go.Deep.open_slice ht hf with ⟨hcs, _⟩ | ⟨a, len, cap, m, n, D, Pl, hcs, _, hl, hm, hmm, _, hel⟩
  · simp [Value.cells] at hcs
    obtain ⟨rfl, rfl, rfl⟩ := hcs
    exact .inl rfl
  · right
    simp [Value.cells] at hcs
    obtain ⟨rfl, rfl, rfl⟩ := hcs
    have hmm : m = cap0 := by simpa using hmm
    subst hmm
    exact rows_read hR hk hl hm hel
/-- How a slice within something reads. -/
theorem reads_slice {P : Program} {t e : TypeId} {k : Nat} {α : Type} {el : α → List PV} {wf : α → Prop} (ht : P.underlying t = some (.slice e)) (hc : P.cellsOf t = 1) (hR : Reads P e k el wf) (hk : 0 < k) :
    Reads P t 1 (fun o : Option (List α) => [slP k el o]) fun o => ∀ u ∈ o.getD [], wf u := by
  refine ⟨hc, fun H enc w base held n cs y h => ?_⟩
  rcases Go.Deep.open_slice ht h with ⟨rfl, _⟩ | ⟨a, len, cap, m, n', D, Pl, rfl, _, hl, hm, hmm, _, hel⟩
  · refine ⟨none, by simp, rfl, fun j x hj => ?_⟩
    cases j with
    | zero => cases hj; exact ⟨_, rfl, .lit _ rfl⟩
    | succ j => simp at hj
  · have hmm : m = cap := by simpa using hmm
    subst hmm
    obtain ⟨l, h1, h2⟩ := rows_read hR hk hl hm hel
    refine ⟨some l, h1, rfl, fun j x hj => ?_⟩
    cases j with
    | zero => cases hj; exact ⟨_, rfl, h2⟩
    | succ j => simp at hj
end
end Go.Rd

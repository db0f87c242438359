/- RD, part 10: rows of the call's own: make, slices written out, append. -/
import Derived.Test.YtiollkejojdplaaRdMake2
namespace Go.Rd
open Go.RowKit

section
variable {P : Program} {T : TypeId → Option TI} {st : ASt} {a : Act} {w : World} {ι : Nat → Nat → Nat} {K : TV → ASt → Prop}

/-- A new row at place 'd', and the slice over all of it; or, nobody writing it any more, the row as a value. -/
def mkRow (st : ASt) (d : Nat) (e : TypeId) (esz : Nat) (es : List (List PV)) (K : TV → ASt → Prop) : Prop :=
  K (.a (.s (.sl st.L d 0 es.length))) { st with O := upd st.O st.L d (some (.row e esz es)) } ∨ K (row esz es) st

theorem mkRow_sound (h : Good st a w ι) {d : Nat} {e : TypeId} {esz g cap : Nat} {es : List (List PV)} {c : Array Value} {w' : World} (hd : st.O st.L d = none)
    (hw : Below w.heap.size w w') (hg : w.heap.size ≤ g) (hc : w'.heap[g]? = some (.cells c e (0, 0))) (hcs : cap * esz = c.size) (hcap : es.length ≤ cap) (hmax : cap ≤ maxLen)
    (hel : ∀ (i : Nat) (x : List PV), es[i]? = some x → x.length = esz)
    (hr : ∀ (i j : Nat) (x : List PV) (y : PV), es[i]? = some x → x[j]? = some y → ∃ u, c[i * esz + j]? = some u ∧ RepP w (Gd w ι st.O) y u)
    (hk : mkRow st d e esz es K) {s : Sem Value} (hs : s.run P w = .ok (.slice (some ⟨g, 0, none⟩) es.length cap) w') : Does P st a w ι K s := by
  rcases hk with hk | hk
  · have hst := stays_new h (o := .row e esz es) hw hd hg
    refine ⟨_, _, _, _, iupd ι st.L d g, hk, hs, h.new hw hd hg ⟨c, hc, hel, ?_, by omega, fun i j x y hx hy => ?_⟩ (fun e' cs he s hs => by cases he), Moves.new h hw hd hg,
      ⟨e, esz, es, cap, c, upd_same _ _ _ _, by rw [iupd_same]; simp, by simp, hcap, hmax, by rw [iupd_same]; exact hc, by simpa using hcs⟩⟩
    · rw [← hcs]; exact Nat.mul_le_mul_right _ hcap
    · obtain ⟨u, hu, hru⟩ := hr i j x y hx hy
      exact ⟨u, hu, hru.mono hst.good⟩
  · have hgd : ∀ k, Gd w ι st.O k → Gd w' ι st.O k ∧ w'.heap[k]? = w.heap[k]? := fun k hk => ⟨⟨Nat.lt_of_lt_of_le hk.1 hw.size, hk.2⟩, hw.block k hk.1⟩
    have hst : Stays w w' (Gd w ι st.O) (Gd w' ι st.O) ι ι st.O st.O :=
      ⟨hgd, fun l b o ho => ⟨o, ho, AObj.fits_refl o, rfl⟩, fun l b o c e ho hc => ⟨c, by rw [hw.block _ (h.lies.lt ho)]; exact hc, rfl⟩⟩
    refine ⟨_, _, st, w', ι, hk, hs, ⟨h.toFits.world hst ⟨fun l b o ho => (h.lies.obj l b o ho).stays hst (hw.block _ (h.lies.lt ho)), h.lies.inj⟩, h.sup, h.lev⟩,
      ⟨rfl, rfl, hw.os, hw.tape, hw.output, hw.size, fun k hk _ => hw.block k hk, fun l b o ho => .inl ⟨l, b, o, ho, rfl⟩, fun l b o _ ho => ⟨o, ho, AObj.fits_refl o, rfl⟩, fun l b o c e _ ho hc => ⟨c, by rw [hw.block _ (h.lies.lt ho)]; exact hc, rfl⟩⟩, ?_⟩
    refine RepP.mk_row hcap hmax ⟨hel, fun _ => ⟨(Array.getElem?_eq_some_iff.1 hc).1, fun ⟨l, b, o, ho, e1⟩ => ?_⟩, by omega, fun i j x y hx hy => ?_⟩
    · have := h.lies.lt ho
      omega
    · obtain ⟨u, hu, hru⟩ := hr i j x y hx hy
      exact ⟨u, by rw [cell_block hc, Nat.zero_add]; exact hu, hru.mono hgd⟩

/-! ### make -/
def eMake (T : TypeId → Option TI) (st : ASt) (d : Nat) (t : TypeId) (len cap : Operand) (K : TV → ASt → Prop) : Prop :=
  ∃ ti e ei, T t = some ti ∧ ti.d = .slice e ∧ T e = some ei ∧ 0 < ei.size ∧ match (st.drop d).ev len, (st.drop d).ev cap with
    | .a (.s (.pv (.lit (.int _ l)))), .a (.s (.pv (.lit (.int _ c)))) => 0 ≤ l ∧ l ≤ c ∧ (ei.bytes : Int) * c ≤ 281474976710656 ∧ c ≤ 9223372036854775807 ∧
        mkRow (st.drop d) d e ei.size (List.replicate l.toNat (ei.zero.map .lit)) K
    | _, _ => False

theorem zero_at {i : TI} {t : TypeId} (hi : i.ok P t) {n k j : Nat} {y : PV} (hk : k < n) (hy : (i.zero.map PV.lit)[j]? = some y) {G : Nat → Prop} :
    ∃ u, (madeCells i.zero.toArray (n * i.size))[k * i.size + j]? = some u ∧ RepP w G y u := by
  rw [List.getElem?_map] at hy
  cases hz : i.zero[j]? with
  | none => simp [hz] at hy
  | some u =>
    simp only [hz, Option.map_some, Option.some.injEq] at hy
    subst hy
    have hj : j < i.size := by rw [← hi.zero]; exact (List.getElem?_eq_some_iff.1 hz).1
    have hlt : k * i.size + j < n * i.size := by
      have : (k + 1) * i.size ≤ n * i.size := Nat.mul_le_mul_right _ hk
      rw [Nat.add_mul] at this
      omega
    refine ⟨u, ?_, .lit _ (List.all_eq_true.1 hi.one u (List.mem_of_getElem? hz))⟩
    have hmod : (k * i.size + j) % i.size = j := by rw [Nat.mul_comm, Nat.mul_add_mod, Nat.mod_eq_of_lt hj]
    have hzj : i.zero.toArray[(k * i.size + j) % i.zero.toArray.size]! = u := by
      simp only [List.size_toArray, hi.zero, hmod]
      rw [getElem!_pos i.zero.toArray j (by simp; rw [hi.zero]; exact hj)]
      have := (List.getElem?_eq_some_iff.1 hz).2
      simpa using this
    simp only [madeCells, Array.getElem?_map, Array.getElem?_range, hlt, if_true, Option.map_some, hzj]

theorem eMake_sound (hT : TOk P T) (h : Good st a w ι) {d : Nat} {t : TypeId} {len cap : Operand} (hk : eMake T st d t len cap K) :
    Does P st a w ι K (Instr.makeSlice t (a.eval len) (a.eval cap)) := by
  obtain ⟨ti, e, ei, h1, h2, h3, hsz, hk⟩ := hk
  have hd := (hT t ti h1).desc
  rw [h2] at hd
  have hei := hT e ei h3
  obtain ⟨inf, hi, hs, hb, hz⟩ := hei.info
  have hg := h.drop d
  have hl := hg.ev len
  have hc := hg.ev cap
  split at hk
  · rename_i kl l kc c ql qc
    rw [ql] at hl
    rw [qc] at hc
    obtain ⟨el, _⟩ := RepP.lit_inv hl
    obtain ⟨ec, _⟩ := RepP.lit_inv hc
    obtain ⟨p1, p2, p3, p4, hk⟩ := hk
    have hrun := run_make (P := P) w t e inf _ hd.1 hi hz kl kc l c p1 p2 (by rw [hb]; exact p3) p4
    rw [← el, ← ec, zero_cells hei, hs] at hrun
    refine Does.drop (mkRow_sound hg (g := w.heap.size) (cap := c.toNat) (by rw [ASt.drop_L]; exact ASt.drop_none st d) (below_alloc' w _) (Nat.le_refl _) (heap_alloc_new w _) (size_madeCells _ _).symm (by simp; omega)
      (by unfold maxLen; omega) (fun i x hx => ?_) (fun i j x y hx hy => ?_) hk (by simpa using hrun))
    · rw [List.getElem?_replicate] at hx
      split at hx
      · cases hx; simp [hei.zero]
      · cases hx
    · rw [List.getElem?_replicate] at hx
      split at hx
      · cases hx
        exact zero_at hei (by omega) hy
      · cases hx
  · exact hk.elim

/-! ### a slice written out -/
/-- The elements, each of its operand, in order. -/
def elemsOf (sz : Nat) (ev : Operand → TV) : Nat → List (Nat × Operand) → Option (List (List PV))
  | _, [] => some []
  | k, (i, x) :: r => match cellsOf (ev x) with
    | some xs => match pvs xs, elemsOf sz ev (k + 1) r with
      | some ps, some es => if i = k ∧ ps.length = sz then some (ps :: es) else none
      | _, _ => none
    | none => none

def eBuildSlice (T : TypeId → Option TI) (st : ASt) (d : Nat) (t : TypeId) (len : Nat) (parts : Array (Nat × Operand)) (K : TV → ASt → Prop) : Prop :=
  ∃ ti e ei es, T t = some ti ∧ ti.d = .slice e ∧ T e = some ei ∧ 0 < ei.size ∧ elemsOf ei.size (st.drop d).ev 0 parts.toList = some es ∧ es.length = len ∧ len * ei.size ≤ 16777216 ∧
    mkRow (st.drop d) d e ei.size es K

theorem fill_elems {G : Nat → Prop} {O : Store} {sz : Nat} {ev : Operand → TV} {ev' : Operand → Value} (hev : ∀ x, RepT w G ι O (ev x) (ev' x)) :
    ∀ (parts : List (Nat × Operand)) (k : Nat) (es : List (List PV)) (c : Array Value), elemsOf sz ev k parts = some es → (k + parts.length) * sz = c.size →
      ∃ c', Instr.fill (fun i => some (i * sz, sz)) c (parts.map fun p => (p.1, ev' p.2)) = some c' ∧ c'.size = c.size ∧ es.length = parts.length ∧
        (∀ (i : Nat) (x : List PV), es[i]? = some x → x.length = sz) ∧
        (∀ q, q < k * sz → c'[q]? = c[q]?) ∧
        ∀ (i j : Nat) (x : List PV) (y : PV), es[i]? = some x → x[j]? = some y → ∃ u, c'[(k + i) * sz + j]? = some u ∧ RepP w G y u
  | [], k, es, c, h, hc => by
    simp only [elemsOf, Option.some.injEq] at h
    subst h
    exact ⟨c, rfl, rfl, rfl, by simp, fun _ _ => rfl, by simp⟩
  | (i, x) :: r, k, es, c, h, hc => by
    simp only [elemsOf] at h
    split at h
    · rename_i xs hxs
      split at h
      · rename_i ps es' hps hes
        split at h
        · rename_i hq
          obtain ⟨rfl, hpl⟩ := hq
          simp only [Option.some.injEq] at h
          subst h
          have hrep := cellsOf_rep hxs (hev x)
          have hx := pvs_eq hps
          have hl : (ev' x).cells.size = sz := by rw [hrep.1, hx]; simpa using hpl
          have hk1 : i * sz + sz ≤ c.size := by
            rw [← hc]
            have : (i + 1) * sz ≤ (i + ((i, x) :: r).length) * sz := Nat.mul_le_mul_right _ (by simp)
            rw [Nat.add_mul, Nat.one_mul] at this
            exact this
          have he : (ev' x).cells.zipIdx.foldl (fun cs p => cs.setIfInBounds (i * sz + p.2) p.1) c = ((ev' x).cells.toList.zipIdx).foldl (fun cs p => cs.setIfInBounds (i * sz + p.2) p.1) c := by
            rw [← Array.foldl_toList, Array.toList_zipIdx]
          have hll : (ev' x).cells.toList.length = sz := by rw [Array.length_toList]; exact hl
          obtain ⟨f1, f2⟩ := foldl_set (i * sz) (ev' x).cells.toList 0 c (by rw [hll]; omega)
          obtain ⟨c', g1, g2, g3, g4, g5, g6⟩ := fill_elems hev r (i + 1) es' _ hes (by rw [f1, ← hc]; congr 1; simp; omega)
          refine ⟨c', ?_, by rw [g2, f1], by simp [g3], fun i2 x2 h2 => ?_, fun q hq => ?_, fun i2 j2 x2 y2 h2 h3 => ?_⟩
          · simp only [List.map_cons, Instr.fill, hl]
            rw [if_neg (by simp; omega)]
            rw [he]
            exact g1
          · cases i2 with
            | zero => simp at h2; subst h2; exact hpl
            | succ i2 => exact g4 i2 x2 (by simpa using h2)
          · have hq2 : q < (i + 1) * sz := by rw [Nat.add_mul]; omega
            rw [g5 q hq2, f2 q, if_neg (by omega)]
          · cases i2 with
            | zero =>
              simp at h2
              subst h2
              have hj : j2 < sz := by rw [← hpl]; exact (List.getElem?_eq_some_iff.1 h3).1
              have hq2 : i * sz + j2 < (i + 1) * sz := by rw [Nat.add_mul]; omega
              obtain ⟨u, hu, hr⟩ := hrep.2 j2 (.pv y2) (by rw [hx, List.getElem?_map, h3]; rfl)
              refine ⟨u, ?_, hr⟩
              rw [Nat.add_zero, g5 _ hq2, f2 _, if_pos (by rw [hll]; omega)]
              rw [show i * sz + j2 - (i * sz + 0) = j2 by omega]
              simpa using hu
            | succ i2 =>
              obtain ⟨u, hu, hr⟩ := g6 i2 j2 x2 y2 (by simpa using h2) h3
              exact ⟨u, by rw [← hu]; congr 2; congr 1; omega, hr⟩
        · cases h
      · cases h
    · cases h

theorem eBuildSlice_sound (hT : TOk P T) (h : Good st a w ι) {d : Nat} {t : TypeId} {len : Nat} {parts : Array (Nat × Operand)} (hk : eBuildSlice T st d t len parts K) :
    Does P st a w ι K (Instr.buildSlice t len (parts.map fun p => (p.1, a.eval p.2))) := by
  obtain ⟨ti, e, ei, es, h1, h2, h3, hsz, h4, h5, h6, hk⟩ := hk
  have hd := (hT t ti h1).desc
  rw [h2] at hd
  have hei := hT e ei h3
  have hg := h.drop d
  have hplen : ∀ (l : List (Nat × Operand)) (k : Nat) (es : List (List PV)), elemsOf ei.size (st.drop d).ev k l = some es → es.length = l.length := by
    intro l
    induction l with
    | nil => intro k es h; simp only [elemsOf, Option.some.injEq] at h; subst h; rfl
    | cons p r ih =>
      intro k es h
      simp only [elemsOf] at h
      split at h
      · split at h
        · rename_i ps es' _ hes
          split at h
          · simp only [Option.some.injEq] at h
            subst h
            simp [ih _ _ hes]
          · cases h
        · cases h
      · cases h
  have hpl := hplen _ _ _ h4
  obtain ⟨c', g1, g2, g3, g4, _, g6⟩ := fill_elems (w := w) (ι := ι) (ev' := a.eval) (fun x => hg.ev x) parts.toList 0 es (madeCells ei.zero.toArray (len * ei.size)) h4 (by rw [size_madeCells, Nat.zero_add, ← hpl, h5])
  have hrun : (Instr.buildSlice t len (parts.map fun p => (p.1, a.eval p.2))).run P w = .ok (.slice (some ⟨w.heap.size, 0, none⟩) len len) (w.alloc (.cells c' e)) := by
    have g1' : Instr.fill (fun i => some (i * ei.size, ei.size)) (madeCells ei.zero.toArray (len * ei.size)) (parts.map fun p => (p.1, a.eval p.2)).toList = some c' := by
      rw [← g1]; congr 1; simp
    simp only [Instr.buildSlice, Sem.run_bind, run_underlying hd.1, Result.andThen_ok, run_sizeOf_ti w hei]
    rw [if_neg (by omega)]
    by_cases h0 : len * ei.size = 0
    · have hm : ((Array.range (len * ei.size)).map fun x => (#[] : Array Value)[x % (#[] : Array Value).size]!) = madeCells ei.zero.toArray (len * ei.size) := by
        rw [h0]; simp [madeCells]
      rw [if_pos h0]
      simp only [pure_bind, hm, g1']
      simp [newRow]
    · rw [if_neg h0]
      have hm : ((Array.range (len * ei.size)).map fun x => ei.zero.toArray[x % ei.zero.toArray.size]!) = madeCells ei.zero.toArray (len * ei.size) := rfl
      simp only [pure_bind, Sem.run_bind, run_zeroValue_ti w hei, Result.andThen_ok, zero_cells hei, hm, g1']
      simp [newRow]
  refine Does.drop (mkRow_sound hg (g := w.heap.size) (cap := len) (by rw [ASt.drop_L]; exact ASt.drop_none st d) (below_alloc' w _) (Nat.le_refl _) (heap_alloc_new w _) ?_ (by omega) ?_ g4 ?_ hk (by rw [h5]; exact hrun))
  · rw [g2, size_madeCells]
  · have : len * 1 ≤ len * ei.size := Nat.mul_le_mul_left _ hsz
    unfold maxLen
    omega
  · intro i j x y hx hy
    obtain ⟨u, hu, hr⟩ := g6 i j x y hx hy
    exact ⟨u, by simpa using hu, hr⟩
end
end Go.Rd

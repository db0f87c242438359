/- RD, part 11c: copy, clear. -/
import Derived.Test.YtiollkejojdplaaRdPlace
import Derived.Laws.CopyRow
namespace Go.Rd
open Go.RowKit

section
variable {P : Program} {T : TypeId → Option TI} {st : ASt} {a : Act} {w : World} {ι : Nat → Nat → Nat} {K : TV → ASt → Prop}

/-- A slice over a row that may be written. -/
def dstOf (O : Store) (v : TV) (e : TypeId) (sz : Nat) (F : Nat → Nat → Nat → Nat → List (List PV) → Prop) : Prop :=
  match v with
  | .a (.s (.sl l b off len)) => ∃ es, O l b = some (.row e sz es) ∧ F l b off len es
  | .a (.s (.slc l b off len _)) => ∃ es, O l b = some (.row e sz es) ∧ F l b off len es
  | _ => False
/-- What is read: how long, and the first n elements. -/
def srcOf (O : Store) (v : TV) (e : TypeId) (sz n : Nat) (F : Nat → List (List PV) → Prop) : Prop :=
  match v with
  | .a (.s (.pv (.row esz es))) => esz = sz ∧ F es.length (es.take n)
  | .a (.s (.sl l b off len)) => ∃ es, O l b = some (.row e sz es) ∧ F len ((es.drop off).take (min n len))
  | .a (.s (.slc l b off len _)) => ∃ es, O l b = some (.row e sz es) ∧ off + min n len ≤ es.length ∧ F len ((es.drop off).take (min n len))
  | _ => False

theorem dst_inv {e : TypeId} {sz : Nat} {v : TV} {val : Value} {F : Nat → Nat → Nat → Nat → List (List PV) → Prop} (hr : RepT w (Gd w ι st.O) ι st.O v val) (hn : dstOf st.O v e sz F) :
    ∃ l b off len es cap c, F l b off len es ∧ st.O l b = some (.row e sz es) ∧ val = .slice (some ⟨ι l b, off * sz, none⟩) len cap ∧ len ≤ cap ∧ cap ≤ maxLen ∧ w.heap[ι l b]? = some (.cells c e (0, 0)) ∧ (off + cap) * sz = c.size := by
  unfold dstOf at hn
  split at hn
  · obtain ⟨es, ho, hF⟩ := hn
    obtain ⟨e1, esz, es1, cap, c, ho1, rfl, q1, q2, q3, q4, q5⟩ := hr
    rw [ho] at ho1
    simp only [Option.some.injEq, AObj.row.injEq] at ho1
    obtain ⟨rfl, rfl, rfl⟩ := ho1
    exact ⟨_, _, _, _, es, cap, c, hF, ho, rfl, q2, q3, q4, q5⟩
  · obtain ⟨es, ho, hF⟩ := hn
    obtain ⟨e1, esz, es1, c, ho1, rfl, q2, q3, q4, q5⟩ := hr
    rw [ho] at ho1
    simp only [Option.some.injEq, AObj.row.injEq] at ho1
    obtain ⟨rfl, rfl, rfl⟩ := ho1
    exact ⟨_, _, _, _, es, _, c, hF, ho, rfl, q2, q3, q4, q5⟩
  · exact hn.elim

theorem src_inv (h : Good st a w ι) {e : TypeId} {sz n : Nat} (hsz : 0 < sz) {v : TV} {val : Value} {F : Nat → List (List PV) → Prop} (hr : RepT w (Gd w ι st.O) ι st.O v val) (hn : srcOf st.O v e sz n F) :
    ∃ es ad m c news, F m es ∧ val = .slice (some ad) m c ∧ es.length = min n m ∧ News w (Gd w ι st.O) sz es ad news := by
  have own : ∀ {l b off k : Nat} {es : List (List PV)} {c : Array Value}, st.O l b = some (.row e sz es) → w.heap[ι l b]? = some (.cells c e (0, 0)) →
      ∃ news, News w (Gd w ι st.O) sz ((es.drop off).take k) ⟨ι l b, off * sz, none⟩ news := by
    intro l b off k es c ho q4
    obtain ⟨c', p1, p2, p3, p4, p5⟩ := h.lies.obj _ _ _ ho
    rw [q4] at p1
    simp only [Option.some.injEq, Obj.cells.injEq, and_true] at p1
    subst p1
    exact news_at (w := w) (G := Gd w ι st.O) hsz (fun i x hx => by
        rw [List.getElem?_take] at hx
        split at hx
        · rw [List.getElem?_drop] at hx; exact p2 _ x hx
        · cases hx) (fun i j x y hx hy => by
        rw [List.getElem?_take] at hx
        split at hx
        · rw [List.getElem?_drop] at hx
          obtain ⟨u, hu, hru⟩ := p5 _ j x y hx hy
          refine ⟨u, ?_, hru⟩
          rw [cell_block q4, ← hu]
          congr 1
          rw [Nat.add_mul]
        · cases hx)
  unfold srcOf at hn
  split at hn
  · rename_i esz es
    obtain ⟨blk, off, cap, rfl, _, _, hrow⟩ := RepP.row_inv hr
    obtain ⟨rfl, hF⟩ := hn
    obtain ⟨news, hnews⟩ := news_at (es := es.take n) hsz (fun i x hx => by
        rw [List.getElem?_take] at hx
        split at hx
        · exact hrow.len i x hx
        · cases hx) (fun i j x y hx hy => by
        rw [List.getElem?_take] at hx
        split at hx
        · exact hrow.cell i j x y hx hy
        · cases hx)
    exact ⟨_, _, _, _, news, hF, rfl, by rw [List.length_take], hnews⟩
  · rename_i l b off len
    obtain ⟨es, ho, hF⟩ := hn
    obtain ⟨e1, esz, es1, cap, c, ho1, rfl, q1, q2, q3, q4, q5⟩ := hr
    rw [ho] at ho1
    simp only [Option.some.injEq, AObj.row.injEq] at ho1
    obtain ⟨rfl, rfl, rfl⟩ := ho1
    obtain ⟨news, hnews⟩ := own (off := off) (k := min n len) ho q4
    exact ⟨_, _, _, _, news, hF, rfl, by rw [List.length_take, List.length_drop]; omega, hnews⟩
  · rename_i l b off len cap
    obtain ⟨es, ho, hle, hF⟩ := hn
    obtain ⟨e1, esz, es1, c, ho1, rfl, q2, q3, q4, q5⟩ := hr
    rw [ho] at ho1
    simp only [Option.some.injEq, AObj.row.injEq] at ho1
    obtain ⟨rfl, rfl, rfl⟩ := ho1
    obtain ⟨news, hnews⟩ := own (off := off) (k := min n len) ho q4
    exact ⟨_, _, _, _, news, hF, rfl, by rw [List.length_take, List.length_drop]; omega, hnews⟩
  · exact hn.elim

def eCopy (T : TypeId → Option TI) (st : ASt) (t : TypeId) (x y : Operand) (K : TV → ASt → Prop) : Prop :=
  ∃ ti e ei, T t = some ti ∧ ti.d = .slice e ∧ T e = some ei ∧ 0 < ei.size ∧ dstOf st.O (st.ev x) e ei.size fun l b off len es => srcOf st.O (st.ev y) e ei.size len fun m news =>
    off ≤ es.length ∧ off + news.length ≤ maxLen ∧ K (int ((min m len : Nat) : Int)) { st with O := upd st.O l b (some (.row e ei.size (over es off news))) }

theorem eCopy_sound (hT : TOk P T) (h : Good st a w ι) {t t2 ty : TypeId} {x y : Operand} (hk : eCopy T st t x y K) :
    Does P st a w ι K (Builtin.copy_ #[t, t2] ty #[a.eval x, a.eval y]) := by
  obtain ⟨ti, e, ei, h1, h2, h3, hsz, hk⟩ := hk
  have hd := (hT t ti h1).desc
  rw [h2] at hd
  have hei := hT e ei h3
  obtain ⟨l, b, off, len, es, cap, c, hk, ho, hx, q1, q2, q3, q4⟩ := dst_inv (h.ev x) hk
  obtain ⟨es', ad, m, c2, news, ⟨hoff, hmx, hk⟩, hy, hlen, hnews⟩ := src_inv h hsz (h.ev y) hk
  rw [hx, hy]
  have hmin : Nat.min m len = es'.length := by rw [hlen]; exact Nat.min_comm m len
  have hfit : off * ei.size + news.length ≤ c.size := by
    rw [hnews.len, ← q4, ← Nat.add_mul]
    exact Nat.mul_le_mul_right _ (by rw [hlen]; omega)
  have hf := run_firstCells_some (P := P) w ei.size es'.length ad m c2 news hnews.len hnews.cell
  have hst := run_storeCells_at P (ι l b) (off * ei.size) e news 0 c w q3 (by simpa using hfit) hnews.one
  simp only [Nat.add_zero] at hst
  obtain ⟨g1, g2, _⟩ := row_write h ho q3 hoff hnews.len hfit hnews.el hnews.rep hmx
  refine ⟨_, .int .i64 ((min m len : Nat) : Int), _, _, ι, hk, ?_, g1, g2, RepP.lit _ rfl⟩
  simp only [Builtin.copy_, List.getElem?_toArray, List.getElem?_cons_zero, List.getElem?_cons_succ, Sem.run_bind, run_underlying hd.1, Result.andThen_ok, Builtin.lenOf, Sem.run_pure, run_sizeOf_ti w hei, hmin, hf, hst]
  rfl

theorem zeros_at {i : TI} {t : TypeId} (hi : i.ok P t) {n k j : Nat} {y : PV} (hk : k < n) (hy : (i.zero.map PV.lit)[j]? = some y) {G : Nat → Prop} :
    ∃ u, (Builtin.zeroCells i.zero.toArray n).toList[k * i.size + j]? = some u ∧ RepP w G y u := by
  rw [List.getElem?_map] at hy
  cases hz : i.zero[j]? with
  | none => simp [hz] at hy
  | some u =>
    simp only [hz, Option.map_some, Option.some.injEq] at hy
    subst hy
    have hj : j < i.size := by rw [← hi.zero]; exact (List.getElem?_eq_some_iff.1 hz).1
    have hlt : k * i.size + j < n * i.size := by
      have : (k + 1) * i.size ≤ n * i.size := Nat.mul_le_mul_right _ hk
      rw [Nat.add_mul] at this
      omega
    refine ⟨u, ?_, .lit _ (List.all_eq_true.1 hi.one u (List.mem_of_getElem? hz))⟩
    have hmod : (k * i.size + j) % i.size = j := by rw [Nat.mul_comm, Nat.mul_add_mod, Nat.mod_eq_of_lt hj]
    have hzj : i.zero.toArray[(k * i.size + j) % i.zero.toArray.size]! = u := by
      simp only [List.size_toArray, hi.zero, hmod]
      rw [getElem!_pos i.zero.toArray j (by simp; rw [hi.zero]; exact hj)]
      have := (List.getElem?_eq_some_iff.1 hz).2
      simpa using this
    have hlt' : k * i.size + j < n * i.zero.toArray.size := by simpa [hi.zero] using hlt
    rw [Array.getElem?_toList]
    simp only [Builtin.zeroCells, Array.getElem?_map, Array.getElem?_range, hlt', if_true, Option.map_some, hzj]
theorem zeros_one {i : TI} {t : TypeId} (hi : i.ok P t) (n : Nat) : ∀ v ∈ (Builtin.zeroCells i.zero.toArray n).toList, v.oneCell' = true := by
  intro v hv
  simp only [Builtin.zeroCells, Array.toList_map, List.mem_map, Array.mem_toList_iff, Array.mem_range] at hv
  obtain ⟨q, hq, rfl⟩ := hv
  have hpos : 0 < i.zero.toArray.size := by
    rcases Nat.eq_zero_or_pos i.zero.toArray.size with h0 | h0
    · rw [h0] at hq; simp at hq
    · exact h0
  have hlt : q % i.zero.toArray.size < i.zero.toArray.size := Nat.mod_lt _ hpos
  rw [getElem!_pos i.zero.toArray _ hlt]
  have hm : i.zero.toArray[q % i.zero.toArray.size] ∈ i.zero := by simp
  exact List.all_eq_true.1 hi.one _ hm

def eClear (T : TypeId → Option TI) (st : ASt) (t : TypeId) (x : Operand) (K : TV → ASt → Prop) : Prop :=
  ∃ ti e ei, T t = some ti ∧ ti.d = .slice e ∧ T e = some ei ∧ 0 < ei.size ∧ dstOf st.O (st.ev x) e ei.size fun l b off len es =>
    off ≤ es.length ∧ off + len ≤ maxLen ∧ 0 < len ∧ K (.tup []) { st with O := upd st.O l b (some (.row e ei.size (over es off (List.replicate len (ei.zero.map .lit))))) }

theorem eClear_sound (hT : TOk P T) (h : Good st a w ι) {t ty : TypeId} {x : Operand} (hk : eClear T st t x K) : Does P st a w ι K (Builtin.clear_ #[t] ty #[a.eval x]) := by
  obtain ⟨ti, e, ei, h1, h2, h3, hsz, hk⟩ := hk
  have hd := (hT t ti h1).desc
  rw [h2] at hd
  have hei := hT e ei h3
  obtain ⟨l, b, off, len, es, cap, c, ⟨hoff, hmx, hpos, hk⟩, ho, hx, q1, q2, q3, q4⟩ := dst_inv (h.ev x) hk
  rw [hx]
  have hzl : (Builtin.zeroCells ei.zero.toArray len).toList.length = (List.replicate len (ei.zero.map PV.lit)).length * ei.size := by
    rw [Array.length_toList, size_zeroCells, List.length_replicate]
    simp [hei.zero]
  have hfit : off * ei.size + (Builtin.zeroCells ei.zero.toArray len).toList.length ≤ c.size := by
    rw [hzl, List.length_replicate, ← q4, ← Nat.add_mul]
    exact Nat.mul_le_mul_right _ (by omega)
  have hst := run_storeCells_at P (ι l b) (off * ei.size) e (Builtin.zeroCells ei.zero.toArray len).toList 0 c w q3 (by simpa using hfit) (zeros_one hei len)
  simp only [Nat.add_zero] at hst
  obtain ⟨g1, g2, _⟩ := row_write h ho q3 hoff hzl hfit (fun i x hx => by
      rw [List.getElem?_replicate] at hx
      split at hx
      · cases hx; simp [hei.zero]
      · cases hx) (fun i j x y hx hy => by
      rw [List.getElem?_replicate] at hx
      split at hx
      · cases hx
        exact zeros_at hei (by omega) hy
      · cases hx) (by rw [List.length_replicate]; exact hmx)
  refine ⟨_, .tuple #[], _, _, ι, hk, ?_, g1, g2, rep_skip'⟩
  cases len with
  | zero => omega
  | succ m =>
    have hz := run_zeroValue_ti w hei
    simp only [Builtin.clear_, List.getElem?_toArray, List.getElem?_cons_zero, Sem.run_bind, run_underlying hd.1, Result.andThen_ok, hz, zero_cells hei, hst, Sem.run_pure]
where
  rep_skip' {w : World} {G : Nat → Prop} {ι : Nat → Nat → Nat} {O : Store} : RepT w G ι O (.tup []) (.tuple #[]) := ⟨#[], rfl, rfl, fun j y h => by simp at h⟩
end
end Go.Rd

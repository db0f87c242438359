/- RD, part 11d: append to a slice that knows its capacity. -/
import Derived.Test.YtiollkejojdplaaRdPlace2
import Derived.Deep.AppendSrc
namespace Go.Rd
open Go.RowKit

section
variable {P : Program} {T : TypeId → Option TI} {st : ASt} {a : Act} {w : World} {ι : Nat → Nat → Nat} {K : TV → ASt → Prop}

/-- All elements of a slice. -/
def srcAll (O : Store) (v : TV) (e : TypeId) (sz : Nat) (F : List (List PV) → Prop) : Prop :=
  match v with
  | .a (.s (.pv (.row esz es))) => esz = sz ∧ F es
  | .a (.s (.sl l b off len)) => ∃ es, O l b = some (.row e sz es) ∧ F ((es.drop off).take len)
  | .a (.s (.slc l b off len _)) => ∃ es, O l b = some (.row e sz es) ∧ off + len ≤ es.length ∧ F ((es.drop off).take len)
  | _ => False

theorem own_news (h : Good st a w ι) {e : TypeId} {sz : Nat} (hsz : 0 < sz) {l b : Nat} (off k : Nat) {es : List (List PV)} {c : Array Value} (ho : st.O l b = some (.row e sz es)) (q4 : w.heap[ι l b]? = some (.cells c e (0, 0))) :
    ∃ news, News w (Gd w ι st.O) sz ((es.drop off).take k) ⟨ι l b, off * sz, none⟩ news := by
  obtain ⟨c', p1, p2, p3, p4, p5⟩ := h.lies.obj _ _ _ ho
  rw [q4] at p1
  simp only [Option.some.injEq, Obj.cells.injEq, and_true] at p1
  subst p1
  exact news_at (w := w) (G := Gd w ι st.O) hsz (fun i x hx => by
      rw [List.getElem?_take] at hx
      split at hx
      · rw [List.getElem?_drop] at hx; exact p2 _ x hx
      · cases hx) (fun i j x y hx hy => by
      rw [List.getElem?_take] at hx
      split at hx
      · rw [List.getElem?_drop] at hx
        obtain ⟨u, hu, hru⟩ := p5 _ j x y hx hy
        refine ⟨u, ?_, hru⟩
        rw [cell_block q4, ← hu]
        congr 1
        rw [Nat.add_mul]
      · cases hx)

theorem srcAll_inv (h : Good st a w ι) {e : TypeId} {sz : Nat} (hsz : 0 < sz) {v : TV} {val : Value} {F : List (List PV) → Prop} (hr : RepT w (Gd w ι st.O) ι st.O v val) (hn : srcAll st.O v e sz F) :
    ∃ es ad m c news, F es ∧ val = .slice (some ad) m c ∧ m = es.length ∧ News w (Gd w ι st.O) sz es ad news := by
  unfold srcAll at hn
  split at hn
  · rename_i esz es
    obtain ⟨blk, off, cap, rfl, _, _, hrow⟩ := RepP.row_inv hr
    obtain ⟨rfl, hF⟩ := hn
    obtain ⟨news, hnews⟩ := news_at hsz hrow.len hrow.cell
    exact ⟨_, _, _, _, news, hF, rfl, rfl, hnews⟩
  · rename_i l b off len
    obtain ⟨es, ho, hF⟩ := hn
    obtain ⟨e1, esz, es1, cap, c, ho1, rfl, q1, q2, q3, q4, q5⟩ := hr
    rw [ho] at ho1
    simp only [Option.some.injEq, AObj.row.injEq] at ho1
    obtain ⟨rfl, rfl, rfl⟩ := ho1
    obtain ⟨news, hnews⟩ := own_news h hsz off len ho q4
    exact ⟨_, _, _, _, news, hF, rfl, by rw [List.length_take, List.length_drop]; omega, hnews⟩
  · rename_i l b off len cap
    obtain ⟨es, ho, hle, hF⟩ := hn
    obtain ⟨e1, esz, es1, c, ho1, rfl, q2, q3, q4, q5⟩ := hr
    rw [ho] at ho1
    simp only [Option.some.injEq, AObj.row.injEq] at ho1
    obtain ⟨rfl, rfl, rfl⟩ := ho1
    obtain ⟨news, hnews⟩ := own_news h hsz off len ho q4
    exact ⟨_, _, _, _, news, hF, rfl, by rw [List.length_take, List.length_drop]; omega, hnews⟩
  · exact hn.elim

/-- Behind 'append' to a slice from the row's first element on: in place, or in a new row. -/
def eAppendS (T : TypeId → Option TI) (st : ASt) (d : Nat) (t : TypeId) (s x : Operand) (K : TV → ASt → Prop) : Prop :=
  ∃ ti e ei, T t = some ti ∧ ti.d = .slice e ∧ T e = some ei ∧ 0 < ei.size ∧ srcAll st.O (st.ev x) e ei.size fun news =>
    match st.ev s with
    | .a (.s (.slc l b 0 len cap)) => ∃ es, st.O l b = some (.row e ei.size es) ∧ len ≤ es.length ∧ len + news.length ≤ maxLen ∧
      (len + news.length ≤ cap → K (.a (.s (.slc l b 0 (len + news.length) cap))) { st with O := upd st.O l b (some (.row e ei.size (over es len news))) }) ∧
      (cap < len + news.length → (len + news.length) * ei.bytes ≤ 140737488355328 ∧ mkRow (st.drop d) d e ei.size (es.take len ++ news) K)
    | _ => False

theorem drop_Gd (st : ASt) (d : Nat) {w : World} {ι : Nat → Nat → Nat} : ∀ k, Gd w ι st.O k → Gd w ι (st.drop d).O k := by
  rintro k ⟨q1, q2⟩
  refine ⟨q1, fun ⟨l, b, o, q3, q4⟩ => ?_⟩
  obtain ⟨o1, q5⟩ := drop_O st d q3
  exact q2 ⟨l, b, o1, q5, q4⟩

/-- A new row out of old elements and new ones. -/
theorem grow_sound (h : Good st a w ι) {d : Nat} {e : TypeId} {ei : TI} (hei : ei.ok P e) {es1 es2 : List (List PV)} {ad1 ad2 : Addr} {n1 n2 : List Value} {cap : Nat} (h1 : News w (Gd w ι st.O) ei.size es1 ad1 n1)
    (h2 : News w (Gd w ι st.O) ei.size es2 ad2 n2) (hmax : es1.length + es2.length ≤ maxLen) (hk : mkRow (st.drop d) d e ei.size (es1 ++ es2) K) {s : Sem Value}
    (hs : s.run P w = .ok (.slice (some ⟨w.heap.size, 0, none⟩) (es1.length + es2.length) (grownCap w (es1.length + es2.length) cap e))
      (w.drew.alloc (.cells ((n1 ++ n2).toArray ++ Builtin.zeroCells ei.zero.toArray (grownCap w (es1.length + es2.length) cap e - (es1.length + es2.length))) e))) : Does P st a w ι K s := by
  have hg := h.drop d
  have hge := grownCap_ge w (es1.length + es2.length) cap e
  refine Does.drop (mkRow_sound hg (g := w.heap.size) (cap := grownCap w (es1.length + es2.length) cap e) (by rw [ASt.drop_L]; exact ASt.drop_none st d) (below_drew_alloc w _) (Nat.le_refl _)
    (heap_alloc_new w.drew _) ?_ (by rw [List.length_append]; exact hge) (grownCap_le_maxLen w _ _ e hmax) (fun i x hx => ?_) (fun i j x y hx hy => ?_) hk (by rw [List.length_append]; exact hs))
  · simp only [Array.size_append, List.size_toArray, size_zeroCells, List.length_append, h1.len, h2.len, hei.zero]
    rw [← Nat.add_mul, ← Nat.add_mul]
    congr 1
    omega
  · rw [List.getElem?_append] at hx
    split at hx
    · exact h1.el _ x hx
    · exact h2.el _ x hx
  · have hx0 := hx
    rw [List.getElem?_append] at hx
    have key : ∃ u, (n1 ++ n2)[i * ei.size + j]? = some u ∧ RepP w (Gd w ι st.O) y u := by
      split at hx
      · obtain ⟨u, hu, hr⟩ := h1.rep i j x y hx hy
        exact ⟨u, by rw [List.getElem?_append_left (List.getElem?_eq_some_iff.1 hu).1]; exact hu, hr⟩
      · rename_i hi
        obtain ⟨u, hu, hr⟩ := h2.rep _ j x y hx hy
        have hle : es1.length * ei.size ≤ i * ei.size := Nat.mul_le_mul_right _ (by omega)
        refine ⟨u, ?_, hr⟩
        rw [List.getElem?_append_right (by rw [h1.len]; omega), h1.len, ← hu]
        congr 1
        rw [Nat.sub_mul]
        omega
    obtain ⟨u, hu, hr⟩ := key
    refine ⟨u, ?_, hr.mono (fun k hk => ⟨drop_Gd st d k hk, rfl⟩)⟩
    have hlt : i * ei.size + j < (n1 ++ n2).length := (List.getElem?_eq_some_iff.1 hu).1
    rw [Array.getElem?_append_left (by simpa using hlt)]
    simpa using hu

theorem eAppendS_sound (hT : TOk P T) (h : Good st a w ι) {d : Nat} {t ty : TypeId} {s x : Operand} (hk : eAppendS T st d t s x K) :
    Does P st a w ι K (Builtin.append_ #[t, t] ty #[a.eval s, a.eval x]) := by
  obtain ⟨ti, e, ei, h1, h2, h3, hsz, hk⟩ := hk
  have hd := (hT t ti h1).desc
  rw [h2] at hd
  have hei := hT e ei h3
  obtain ⟨inf, hi, hs, hb, hz⟩ := hei.info
  have hzc := zero_cells hei
  obtain ⟨es', ad, m, c, news, hk, hxv, rfl, hnews⟩ := srcAll_inv h hsz (h.ev x) hk
  rw [hxv]
  have hsv := h.ev s
  have hnl : news.length = es'.length * inf.size := by rw [hs]; exact hnews.len
  split at hk
  · rename_i l b len cap hq
    rw [hq] at hsv
    obtain ⟨es, ho, hle, hmax, hin, hout⟩ := hk
    obtain ⟨e1, esz, es1, cur, ho1, hv, q2, q3, q4, q5⟩ := hsv
    rw [ho] at ho1
    simp only [Option.some.injEq, AObj.row.injEq] at ho1
    obtain ⟨rfl, rfl, rfl⟩ := ho1
    rw [hv, Nat.zero_mul]
    rw [Nat.zero_add] at q5
    by_cases hroom : len + es'.length ≤ cap
    · have hfit : len * inf.size + news.length ≤ cur.size := by rw [hnl, ← q5, hs, ← Nat.add_mul]; exact Nat.mul_le_mul_right _ hroom
      have hrun := run_append_room (P := P) w t ty e inf hd.1 hi (ι l b) len cap cur q4 ad es'.length c news hnl hnews.cell hnews.one hroom hfit
      rw [hs] at hrun hfit
      obtain ⟨g1, g2, c', g3, g4⟩ := row_write h ho q4 hle hnews.len hfit hnews.el hnews.rep hmax
      exact ⟨_, _, _, _, ι, hin hroom, hrun, g1, g2, ⟨e, ei.size, over es len es', c', upd_same _ _ _ _, by rw [Nat.zero_mul], hroom, q3, g3, by rw [g4, Nat.zero_add]; exact q5⟩⟩
    · obtain ⟨hby, hk⟩ := hout (by omega)
      obtain ⟨olds, holds⟩ := own_news h hsz 0 len ho q4
      rw [Nat.zero_mul, List.drop_zero] at holds
      have hlt : (es.take len).length = len := by rw [List.length_take]; omega
      have hrun := run_append_grow (P := P) w t ty e inf _ hd.1 hi hz ⟨ι l b, 0, none⟩ len cap olds (by rw [holds.len, hlt, hs]) holds.cell ad es'.length c news hnl hnews.cell (by omega) (by unfold maxLen at hmax; omega)
        (growslice_fits (by omega) (by rw [hb]; exact hby))
      rw [hzc] at hrun
      refine grow_sound (es1 := es.take len) (cap := cap) h hei holds hnews (by rw [hlt]; exact hmax) hk ?_
      rw [hlt, show (olds ++ news).toArray = olds.toArray ++ news.toArray by simp]
      exact hrun
  · exact hk.elim
end
end Go.Rd

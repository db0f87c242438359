/- RD, part 11: append to a row of the call's own, or to nil. -/
import Derived.Test.YtiollkejojdplaaRdRows
namespace Go.Rd
open Go.RowKit

/-- What is appended: the cells of so many elements, at an address. -/
structure News (w : World) (G : Nat → Prop) (sz : Nat) (es : List (List PV)) (ad : Addr) (news : List Value) : Prop where
  len : news.length = es.length * sz
  cell : ∀ j u, news[j]? = some u → w.cell? (ad.add j) = some u
  one : ∀ u ∈ news, u.oneCell' = true
  el : ∀ (i : Nat) (x : List PV), es[i]? = some x → x.length = sz
  rep : ∀ (i j : Nat) (x : List PV) (y : PV), es[i]? = some x → x[j]? = some y → ∃ u, news[i * sz + j]? = some u ∧ RepP w G y u

theorem news_at {w : World} {G : Nat → Prop} {sz : Nat} {es : List (List PV)} {blk o : Nat} (hsz : 0 < sz) (hel : ∀ (i : Nat) (x : List PV), es[i]? = some x → x.length = sz)
    (hc : ∀ (i j : Nat) (x : List PV) (y : PV), es[i]? = some x → x[j]? = some y → ∃ u, w.cell? ⟨blk, o + i * sz + j, none⟩ = some u ∧ RepP w G y u) :
    ∃ news, News w G sz es ⟨blk, o, none⟩ news := by
  have split : ∀ j, j < es.length * sz → ∃ x y, es[j / sz]? = some x ∧ x[j % sz]? = some y ∧ j = j / sz * sz + j % sz := by
    intro j hj
    have h1 : j / sz < es.length := (Nat.div_lt_iff_lt_mul hsz).2 hj
    have h2 : j % sz < (es[j / sz]).length := by
      rw [hel (j / sz) es[j / sz] (by simp)]
      exact Nat.mod_lt _ hsz
    exact ⟨es[j / sz], (es[j / sz])[j % sz], by simp, by simp, by have := Nat.div_add_mod j sz; rw [Nat.mul_comm] at this; omega⟩
  refine ⟨(List.range (es.length * sz)).map fun j => (w.cell? ⟨blk, o + j, none⟩).getD undef, by simp, fun j u hu => ?_, fun u hu => ?_, hel, fun i j x y hx hy => ?_⟩
  · rw [List.getElem?_map] at hu
    by_cases hj : j < es.length * sz
    · obtain ⟨x, y, h1, h2, h3⟩ := split j hj
      obtain ⟨v, hv, _⟩ := hc _ _ x y h1 h2
      rw [List.getElem?_range hj] at hu
      have e : o + j = o + j / sz * sz + j % sz := by omega
      simp only [Option.map_some, Option.some.injEq, e, hv, Option.getD_some] at hu
      subst hu
      rw [addr_add, e]
      exact hv
    · rw [List.getElem?_eq_none (by simp; omega)] at hu
      cases hu
  · obtain ⟨j, hj, rfl⟩ := List.mem_map.1 hu
    have hj := List.mem_range.1 hj
    obtain ⟨x, y, h1, h2, h3⟩ := split j hj
    obtain ⟨v, hv, hr⟩ := hc _ _ x y h1 h2
    have e : o + j = o + j / sz * sz + j % sz := by omega
    simp only [e, hv, Option.getD_some]
    exact hr.one
  · obtain ⟨v, hv, hr⟩ := hc i j x y hx hy
    have hi : i < es.length := (List.getElem?_eq_some_iff.1 hx).1
    have hj : j < sz := by rw [← hel i x hx]; exact (List.getElem?_eq_some_iff.1 hy).1
    have hlt : i * sz + j < es.length * sz := by
      have : (i + 1) * sz ≤ es.length * sz := Nat.mul_le_mul_right _ hi
      rw [Nat.add_mul] at this
      omega
    refine ⟨v, ?_, hr⟩
    rw [List.getElem?_map, List.getElem?_range hlt]
    simp [← Nat.add_assoc, hv]

section
variable {P : Program} {T : TypeId → Option TI} {st : ASt} {a : Act} {w : World} {ι : Nat → Nat → Nat} {K : TV → ASt → Prop}

/-- The elements of what is appended. -/
def newsOf (O : Store) (v : TV) (e : TypeId) (sz : Nat) (F : List (List PV) → Prop) : Prop :=
  match v with
  | .a (.s (.pv (.row esz es))) => esz = sz ∧ F es
  | .a (.s (.sl l b off len)) => ∃ es, O l b = some (.row e sz es) ∧ F ((es.drop off).take len)
  | _ => False

def eAppend (T : TypeId → Option TI) (st : ASt) (d : Nat) (t : TypeId) (s x : Operand) (K : TV → ASt → Prop) : Prop :=
  ∃ ti e ei, T t = some ti ∧ ti.d = .slice e ∧ T e = some ei ∧ 0 < ei.size ∧ newsOf st.O (st.ev x) e ei.size fun es' =>
    match st.ev s with
    | .a (.s (.pv (.lit (.slice none 0 0)))) => (match es' with
      | [] => K nilS st
      | p :: r => (p :: r).length * ei.bytes ≤ 140737488355328 ∧ (p :: r).length ≤ maxLen ∧ mkRow (st.drop d) d e ei.size (p :: r) K)
    | .a (.s (.sl l b off len)) => l = st.L ∧ off = 0 ∧ ∃ es, st.O st.L b = some (.row e ei.size es) ∧ len = es.length ∧ (es.length + es'.length) * ei.bytes ≤ 140737488355328 ∧ es.length + es'.length ≤ maxLen ∧
        K (.a (.s (.sl st.L b 0 (es ++ es').length))) { (st.kill b) with O := upd (st.kill b).O st.L b (some (.row e ei.size (es ++ es'))) }
    | _ => False

theorem newsOf_inv (h : Good st a w ι) {e : TypeId} {sz : Nat} (hsz : 0 < sz) {v : TV} {val : Value} {F : List (List PV) → Prop} (hr : RepT w (Gd w ι st.O) ι st.O v val) (hn : newsOf st.O v e sz F) :
    ∃ es ad m c news, F es ∧ val = .slice (some ad) m c ∧ m = es.length ∧ News w (Gd w ι st.O) sz es ad news := by
  unfold newsOf at hn
  split at hn
  · obtain ⟨blk, off, cap, rfl, _, _, hrow⟩ := RepP.row_inv hr
    obtain ⟨rfl, hF⟩ := hn
    obtain ⟨news, hnews⟩ := news_at hsz hrow.len hrow.cell
    exact ⟨_, _, _, _, news, hF, rfl, rfl, hnews⟩
  · rename_i l b off len
    obtain ⟨es, ho, hF⟩ := hn
    obtain ⟨e1, esz, es1, cap, c, ho1, rfl, q1, q2, q3, q4, q5⟩ := hr
    rw [ho] at ho1
    simp only [Option.some.injEq, AObj.row.injEq] at ho1
    obtain ⟨rfl, rfl, rfl⟩ := ho1
    obtain ⟨c', p1, p2, p3, p4, p5⟩ := h.lies.obj _ _ _ ho
    rw [q4] at p1
    simp only [Option.some.injEq, Obj.cells.injEq, and_true] at p1
    obtain ⟨rfl, _⟩ := p1
    have hl : ((es.drop off).take len).length = len := by simp; omega
    obtain ⟨news, hnews⟩ := news_at (w := w) (G := Gd w ι st.O) (es := (es.drop off).take len) (blk := ι l b) (o := off * sz) hsz (fun i x hx => by
        rw [List.getElem?_take] at hx
        split at hx
        · rw [List.getElem?_drop] at hx; exact p2 _ x hx
        · cases hx) (fun i j x y hx hy => by
        rw [List.getElem?_take] at hx
        split at hx
        · rw [List.getElem?_drop] at hx
          obtain ⟨u, hu, hru⟩ := p5 _ j x y hx hy
          refine ⟨u, ?_, hru⟩
          rw [cell_block q4, ← hu]
          congr 1
          rw [Nat.add_mul]
        · cases hx)
    exact ⟨_, _, _, _, news, hF, rfl, hl.symm, hnews⟩
  · exact hn.elim

theorem below_drew_alloc (w : World) (o : Obj) : Below w.heap.size w (w.drew.alloc o) := ((Below.refl _ w).drew).alloc (Nat.le_refl _) o

theorem take_news {w : World} {G : Nat → Prop} {sz : Nat} {es : List (List PV)} {ad : Addr} {news : List Value} (h : News w G sz es ad news) (rest : Array Value)
    (i j : Nat) (x : List PV) (y : PV) (hx : es[i]? = some x) (hy : x[j]? = some y) : ∃ u, (news.toArray ++ rest)[i * sz + j]? = some u ∧ RepP w G y u := by
  obtain ⟨u, hu, hr⟩ := h.rep i j x y hx hy
  refine ⟨u, ?_, hr⟩
  have hlt : i * sz + j < news.length := (List.getElem?_eq_some_iff.1 hu).1
  rw [Array.getElem?_append_left (by simpa using hlt)]
  simpa using hu

theorem eAppend_sound (hT : TOk P T) (h : Good st a w ι) {d : Nat} {t ty : TypeId} {s x : Operand} (hk : eAppend T st d t s x K) :
    Does P st a w ι K (Builtin.append_ #[t, t] ty #[a.eval s, a.eval x]) := by
  obtain ⟨ti, e, ei, h1, h2, h3, hsz, hk⟩ := hk
  have hd := (hT t ti h1).desc
  rw [h2] at hd
  have hei := hT e ei h3
  obtain ⟨inf, hi, hs, hb, hz⟩ := hei.info
  have hzc := zero_cells hei
  obtain ⟨es', ad, m, c, news, hk, hxv, rfl, hnews⟩ := newsOf_inv h hsz (h.ev x) hk
  rw [hxv]
  have hsv := h.ev s
  have hnl : news.length = es'.length * inf.size := by rw [hs]; exact hnews.len
  split at hk
  · rename_i hq
    rw [hq] at hsv
    obtain ⟨esv, _⟩ := RepP.lit_inv hsv
    rw [esv]
    split at hk
    · have hnn : news = [] := List.eq_nil_of_length_eq_zero (by rw [hnews.len]; simp)
      have hf := run_firstCells_some (P := P) w inf.size 0 ad 0 c news (by rw [hnn]; simp) hnews.cell
      refine ⟨_, .slice none 0 0, st, w, ι, hk, ?_, h, Moves.refl _ _ _, RepP.lit _ rfl⟩
      subst hnn
      simp [Builtin.append_, run_underlying hd.1, sizeOf, typeInfo, hi, Builtin.lenOf, hf]
    · rename_i p r
      obtain ⟨hby, hmax, hk⟩ := hk
      have hrun := run_append_nil (P := P) w t ty e inf _ hd.1 hi hz ad (p :: r).length c news hnl hnews.cell (by simp) (by unfold maxLen at hmax; omega) (by rw [hb]; omega)
      have hg := h.drop d
      have hG : ∀ k, Gd w ι st.O k → Gd w ι (st.drop d).O k := by
        rintro k ⟨q1, q2⟩
        refine ⟨q1, fun ⟨l, b, o, q3, q4⟩ => ?_⟩
        obtain ⟨o1, q5⟩ := drop_O st d q3
        exact q2 ⟨l, b, o1, q5, q4⟩
      refine Does.drop (mkRow_sound hg (g := w.heap.size) (cap := grownCap w (p :: r).length 0 e) (by rw [ASt.drop_L]; exact ASt.drop_none st d) (below_drew_alloc w _) (Nat.le_refl _)
        (heap_alloc_new w.drew _) ?_ (grownCap_ge w _ 0 e) (grownCap_le_maxLen w _ 0 e hmax) hnews.el ?_ hk hrun)
      · have hge := grownCap_ge w (p :: r).length 0 e
        simp only [Array.size_append, List.size_toArray, size_zeroCells, hnews.len, hzc, hei.zero]
        rw [← Nat.add_mul]
        congr 1
        omega
      · intro i j x y hx hy
        obtain ⟨u, hu, hr⟩ := take_news hnews _ i j x y hx hy
        exact ⟨u, hu, hr.mono (fun k hk => ⟨hG k hk, rfl⟩)⟩
  · rename_i l b off len hq
    rw [hq] at hsv
    obtain ⟨rfl, rfl, es, ho, rfl, hby, hmax, hk⟩ := hk
    obtain ⟨e1, esz, es1, cap, cur, ho1, hv, q1, q2, q3, q4, q5⟩ := hsv
    rw [ho] at ho1
    simp only [Option.some.injEq, AObj.row.injEq] at ho1
    obtain ⟨rfl, rfl, rfl⟩ := ho1
    obtain ⟨c', p1, p2, p3, p4, p5⟩ := h.lies.obj _ _ _ ho
    rw [q4] at p1
    simp only [Option.some.injEq, Obj.cells.injEq, and_true] at p1
    obtain ⟨rfl, _⟩ := p1
    simp only [Nat.zero_mul, Nat.zero_add] at hv q1 q5
    rw [hv]
    have hlen : (es ++ es').length = es.length + es'.length := by simp
    -- the elements of the longer row
    have hel : ∀ (i : Nat) (x : List PV), (es ++ es')[i]? = some x → x.length = ei.size := by
      intro i x hx
      rw [List.getElem?_append] at hx
      split at hx
      · exact p2 i x hx
      · exact hnews.el _ x hx
    have fin : ∀ (g cap' : Nat) (cur' : Array Value) (w' : World), (Builtin.append_ #[t, t] ty #[.slice (some ⟨ι st.L b, 0, none⟩) es.length cap, .slice (some ad) es'.length c]).run P w = .ok (.slice (some ⟨g, 0, none⟩) (es.length + es'.length) cap') w' →
        But w w' (some (ι st.L b)) → (g = ι st.L b ∨ w.heap.size ≤ g) → w'.heap[g]? = some (.cells cur' e (0, 0)) → cap' * ei.size = cur'.size → es.length + es'.length ≤ cap' → cap' ≤ maxLen →
        (∀ q, q < es.length * ei.size → cur'[q]? = cur[q]?) → (∀ q, q < es'.length * ei.size → cur'[es.length * ei.size + q]? = news[q]?) →
        Does P st a w ι K (Builtin.append_ #[t, t] ty #[.slice (some ⟨ι st.L b, 0, none⟩) es.length cap, .slice (some ad) es'.length c]) := by
      intro g cap' cur' w' hrun hbut hg hheap hcs hcap hcm hold hnew
      have hkeep : ∀ k, Gd w ι st.O k → w'.heap[k]? = w.heap[k]? := fun k hk => hbut.block k hk.1 (fun e => hk.2 ⟨_, _, _, ho, (Option.some.inj e).symm⟩)
      have hcells : ∀ (G' : Nat → Prop), (∀ k, Gd w ι st.O k → G' k) → ∀ (i j : Nat) (x : List PV) (y : PV), (es ++ es')[i]? = some x → x[j]? = some y → ∃ u, cur'[i * ei.size + j]? = some u ∧ RepP w' G' y u := by
        intro G' hG' i j x y hx hy
        have hj : j < ei.size := by rw [← hel i x hx]; exact (List.getElem?_eq_some_iff.1 hy).1
        rw [List.getElem?_append] at hx
        split at hx
        · rename_i hi
          have hlt : i * ei.size + j < es.length * ei.size := by
            have : (i + 1) * ei.size ≤ es.length * ei.size := Nat.mul_le_mul_right _ hi
            rw [Nat.add_mul] at this
            omega
          obtain ⟨u, hu, hr⟩ := p5 i j x y hx hy
          exact ⟨u, by rw [hold _ hlt]; exact hu, hr.mono (fun k hk => ⟨hG' k hk, hkeep k hk⟩)⟩
        · rename_i hi
          have hil : i - es.length < es'.length := (List.getElem?_eq_some_iff.1 hx).1
          have hlt : (i - es.length) * ei.size + j < es'.length * ei.size := by
            have : (i - es.length + 1) * ei.size ≤ es'.length * ei.size := Nat.mul_le_mul_right _ hil
            rw [Nat.add_mul] at this
            omega
          obtain ⟨u, hu, hr⟩ := hnews.rep _ j x y hx hy
          refine ⟨u, ?_, hr.mono (fun k hk => ⟨hG' k hk, hkeep k hk⟩)⟩
          rw [show i * ei.size + j = es.length * ei.size + ((i - es.length) * ei.size + j) by
            rw [← Nat.add_assoc, ← Nat.add_mul]; congr 2; omega, hnew _ hlt]
          exact hu
      have hsw := h.swap (w' := w') (e := e) (esz := ei.size) (es := es ++ es') ho hbut hg (fun G' hG' => ⟨cur', hheap, hel, by rw [hlen, ← hcs]; exact Nat.mul_le_mul_right _ hcap, by omega, hcells G' hG'⟩)
      refine ⟨_, _, _, w', iupd ι st.L b g, hk, hrun, hsw, ?_, ⟨e, ei.size, es ++ es', cap', cur', upd_same _ _ _ _, ?_, by omega, by omega, hcm, ?_, by simpa using hcs⟩⟩
      · have hO' : ∀ l c o', upd (mapO st.L (AObj.sub st.L b fun _ _ => .undef) st.O) st.L b (some (.row e ei.size (es ++ es'))) l c = some o' → (l = st.L ∧ c = b) ∨ (¬ (l = st.L ∧ c = b) ∧ ∃ o1, st.O l c = some o1) := by
          intro l c o' h'
          by_cases hq : l = st.L ∧ c = b
          · exact .inl hq
          · rw [upd_ne _ _ hq] at h'
            refine .inr ⟨hq, ?_⟩
            simp only [mapO] at h'
            split at h'
            · cases hqq : st.O l c with
              | none => simp [hqq] at h'
              | some o1 => exact ⟨o1, rfl⟩
            · exact ⟨o', h'⟩
        refine ⟨rfl, rfl, hbut.os, hbut.tape, hbut.output, hbut.size, fun k hk hn => hbut.block k hk (fun e => hn ⟨_, _, _, ho, (Option.some.inj e).symm⟩), fun l c o' h' => ?_, fun l c o1 hl h' => ?_, fun l c o1 c1 e1 hl h' hc1 => ⟨c1, ?_, rfl⟩⟩
        · rcases hO' l c o' h' with ⟨rfl, rfl⟩ | ⟨hne, o1, h3⟩
          · rw [iupd_same]
            rcases hg with rfl | hg
            · exact .inl ⟨_, _, _, ho, rfl⟩
            · exact .inr hg
          · rw [iupd_ne _ _ hne]; exact .inl ⟨l, c, o1, h3, rfl⟩
        · refine ⟨o1, ?_, AObj.fits_refl _, iupd_ne _ _ (by omega)⟩
          show upd (mapO st.L (AObj.sub st.L b fun _ _ => .undef) st.O) st.L b (some (.row e ei.size (es ++ es'))) l c = some o1
          rw [upd_ne _ _ (by omega)]
          simp only [mapO]
          rw [if_neg (by omega)]
          exact h'
        · rw [hbut.block _ (h.lies.lt h') (fun e => by have := h.lies.inj _ _ _ _ _ _ h' ho (Option.some.inj e); omega)]
          exact hc1
      · rw [iupd_same, hlen]; simp
      · rw [iupd_same]; exact hheap
    by_cases hroom : es.length + es'.length ≤ cap
    · have hfit : es.length * inf.size + news.length ≤ cur.size := by rw [hnl, ← q5, hs, ← Nat.add_mul]; exact Nat.mul_le_mul_right _ hroom
      have hrun := run_append_room (P := P) w t ty e inf hd.1 hi (ι st.L b) es.length cap cur q4 ad es'.length c news hnl hnews.cell hnews.one hroom hfit
      have hsz2 : (cur.toList.take (es.length * inf.size) ++ news ++ cur.toList.drop (es.length * inf.size + news.length)).toArray.size = cur.size := by
        simp only [List.size_toArray, List.length_append, List.length_take, List.length_drop, Array.length_toList]
        omega
      refine fin (ι st.L b) cap _ _ hrun (But.setRow w _ _) (.inl rfl) (setRow_heap w _ _ _ _ _ q4) (by rw [hsz2]; exact q5) hroom q3 (fun q hq => ?_) (fun q hq => ?_)
      · rw [stored_getElem? cur news (es.length * inf.size) q news.length rfl hfit, if_neg (by rw [hs]; omega)]
      · rw [stored_getElem? cur news (es.length * inf.size) _ news.length rfl hfit, if_pos (by rw [hs, hnews.len]; omega)]
        congr 1
        rw [hs]; omega
    · have hlt : cap < es.length + es'.length := by omega
      have holds : ∀ j v, (cur.toList.take (es.length * ei.size))[j]? = some v → w.cell? ((⟨ι st.L b, 0, none⟩ : Addr).add j) = some v := by
        intro j v hj
        rw [List.getElem?_take] at hj
        split at hj
        · rw [addr_add, cell_block q4]
          simpa using hj
        · cases hj
      have hol : (cur.toList.take (es.length * ei.size)).length = es.length * inf.size := by
        have hcl : cur.toList.length = cur.size := Array.length_toList
        have hfit : es.length * ei.size ≤ cap * ei.size := Nat.mul_le_mul_right _ q2
        rw [List.length_take, hcl, hs]
        omega
      have hrun := run_append_grow (P := P) w t ty e inf _ hd.1 hi hz ⟨ι st.L b, 0, none⟩ es.length cap _ hol holds ad es'.length c news hnl hnews.cell hlt (by unfold maxLen at hmax; omega)
        (growslice_fits hlt (by rw [hb]; exact hby))
      have hge := grownCap_ge w (es.length + es'.length) cap e
      have hol' : (cur.toList.take (es.length * ei.size)).length = es.length * ei.size := by rw [hol, hs]
      refine fin w.heap.size (grownCap w (es.length + es'.length) cap e) _ _ hrun (But.of_below (below_drew_alloc w _) _) (.inr (Nat.le_refl _)) (heap_alloc_new w.drew _) ?_ hge (grownCap_le_maxLen w _ _ e hmax) (fun q hq => ?_) (fun q hq => ?_)
      · simp only [Array.size_append, List.size_toArray, hol', hnews.len, size_zeroCells, hzc, hei.zero]
        rw [← Nat.add_mul, ← Nat.add_mul]
        congr 1
        omega
      · have s1 : q < (cur.toList.take (es.length * ei.size)).toArray.size := by rw [List.size_toArray, hol']; exact hq
        rw [Array.getElem?_append_left (by rw [Array.size_append]; omega), Array.getElem?_append_left s1]
        simp only [List.getElem?_toArray, List.getElem?_take, hq, if_true, Array.getElem?_toList]
      · have s1 : (cur.toList.take (es.length * ei.size)).toArray.size = es.length * ei.size := by rw [List.size_toArray, hol']
        have s2 : news.toArray.size = es'.length * ei.size := by rw [List.size_toArray, hnews.len]
        rw [Array.getElem?_append_left (by rw [Array.size_append, s1, s2]; omega), Array.getElem?_append_right (by rw [s1]; omega), s1]
        simp only [List.getElem?_toArray]
        congr 1
        omega
  · exact hk.elim
end
end Go.Rd

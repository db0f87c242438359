/- RD, part 11e: append of a 'make'; entries of the model without a body. -/
import Derived.Test.YtiollkejojdplaaRdPlace3
import Derived.Test.YtiollkejojdplaaRdCall
import Derived.Lib.Overlaps
namespace Go.Rd
open Go.RowKit Go.Proofs

section
variable {P : Program} {T : TypeId → Option TI} {st : ASt} {a : Act} {w : World} {ι : Nat → Nat → Nat} {K : TV → ASt → Prop}

theorem run_append_grow_zeros (w : World) (t tx ty e : TypeId) (i : TypeInfo) (z : Value) {k : IntKind} (ht : P.underlying t = some (.slice e)) (hx : P.underlying tx = some (.int k)) (hi : P.info? e = some i) (hz : i.zero = some z) (hsz : 0 < i.size)
    (b : Addr) (sLen sCap : Nat) (olds : List Value) (hlo : olds.length = sLen * i.size) (holds : ∀ j v, olds[j]? = some v → w.cell? (b.add j) = some v) (n : Nat) (hpos : 0 < n)
    (hg : sCap < sLen + n) (h63 : ((sLen + n : Nat) : Int) ≤ 9223372036854775807) (hfit : Builtin.nextslicecap (sLen + n) sCap * i.bytes ≤ 281474976710656) (hby : n * i.bytes ≤ 281474976710656) {kk : IntKind} :
    (Builtin.append_ #[t, tx] ty #[.slice (some b) sLen sCap, .int kk n]).run P w =
      .ok (.slice (some ⟨w.heap.size, 0, none⟩) (sLen + n) (grownCap w (sLen + n) sCap e))
        (w.drew.alloc (.cells (olds.toArray ++ Builtin.zeroCells z.cells n ++ Builtin.zeroCells z.cells (grownCap w (sLen + n) sCap e - (sLen + n))) e)) := by
  have hn : ¬ (sLen + n ≤ sCap) := by omega
  have h63' : ¬ (9223372036854775807 < ((sLen : Int) + (n : Int))) := by omega
  have h48' : ¬ (281474976710656 < Builtin.nextslicecap (sLen + n) sCap * i.bytes) := by omega
  have hw : IntKind.i64.wrap (n : Int) = n := by rw [IntKind.wrap_i64]; omega
  have hneg : ¬ ((n : Int) < 0) := by omega
  have hby' : ¬ (281474976710656 < (n : Int) * (i.bytes : Int)) := by
    rw [← Int.natCast_mul]
    omega
  have hnz : ¬ (n * i.size = 0) := by
    have := Nat.mul_pos hpos hsz
    omega
  have hfo := run_firstCells_some (P := P) w.drew i.size sLen b sLen sCap olds hlo (by simpa using holds)
  simp [Builtin.append_, run_underlying ht, run_underlying hx, sizeOf, typeInfo, zeroValue, hi, hz, hw, hneg, hby', asInt, asIntOf, hn, h63', h48', Question.forced, hfo, newRow, grownCap, hnz]

/-- Behind 'append(s, make(..)...)' where there is no room. -/
def eAppendZ (P : Program) (T : TypeId → Option TI) (st : ASt) (d : Nat) (t t' : TypeId) (s x : Operand) (K : TV → ASt → Prop) : Prop :=
  ∃ ti e ei k, T t = some ti ∧ ti.d = .slice e ∧ T e = some ei ∧ 0 < ei.size ∧ P.underlying t' = some (.int k) ∧
    match st.ev s, st.ev x with
    | .a (.s (.slc l b 0 len cap)), .a (.s (.pv (.lit (.int _ n)))) => 0 < n ∧ ∃ es, st.O l b = some (.row e ei.size es) ∧ len ≤ es.length ∧ len + n.toNat ≤ maxLen ∧ cap < len + n.toNat ∧ (len + n.toNat) * ei.bytes ≤ 140737488355328 ∧
        mkRow (st.drop d) d e ei.size (es.take len ++ List.replicate n.toNat (ei.zero.map .lit)) K
    | _, _ => False

theorem news_zeros {i : TI} {e : TypeId} (hi : i.ok P e) {G : Nat → Prop} (n : Nat) : (∀ (k : Nat) (x : List PV), (List.replicate n (i.zero.map PV.lit))[k]? = some x → x.length = i.size) ∧
    ∀ (k j : Nat) (x : List PV) (y : PV), (List.replicate n (i.zero.map PV.lit))[k]? = some x → x[j]? = some y → ∃ u, (Builtin.zeroCells i.zero.toArray n).toList[k * i.size + j]? = some u ∧ RepP w G y u := by
  refine ⟨fun k x hx => ?_, fun k j x y hx hy => ?_⟩
  · rw [List.getElem?_replicate] at hx
    split at hx
    · simp only [Option.some.injEq] at hx
      subst hx
      rw [List.length_map, hi.zero]
    · cases hx
  · rw [List.getElem?_replicate] at hx
    split at hx
    · rename_i hk
      simp only [Option.some.injEq] at hx
      subst hx
      exact zeros_at hi hk hy
    · cases hx

theorem eAppendZ_sound (hT : TOk P T) (h : Good st a w ι) {d : Nat} {t t' ty : TypeId} {s x : Operand} (hk : eAppendZ P T st d t t' s x K) :
    Does P st a w ι K (Builtin.append_ #[t, t'] ty #[a.eval s, a.eval x]) := by
  obtain ⟨ti, e, ei, k, h1, h2, h3, hsz, hint, hk⟩ := hk
  have hd := (hT t ti h1).desc
  rw [h2] at hd
  have hei := hT e ei h3
  obtain ⟨inf, hi, hs, hb, hz⟩ := hei.info
  have hzc := zero_cells hei
  have hsv := h.ev s
  have hxv := h.ev x
  split at hk
  · rename_i l b len cap kk n hq1 hq2
    rw [hq1] at hsv
    rw [hq2] at hxv
    obtain ⟨hxe, _⟩ := RepP.lit_inv hxv
    obtain ⟨hpos, es, ho, hle, hmax, hroom, hby, hk⟩ := hk
    obtain ⟨e1, esz, es1, cur, ho1, hv, q2, q3, q4, q5⟩ := hsv
    rw [ho] at ho1
    simp only [Option.some.injEq, AObj.row.injEq] at ho1
    obtain ⟨rfl, rfl, rfl⟩ := ho1
    obtain ⟨m, rfl⟩ := Int.eq_ofNat_of_zero_le (by omega : 0 ≤ n)
    simp only [Int.toNat_natCast] at hmax hroom hby hk
    rw [hv, Nat.zero_mul, hxe]
    obtain ⟨olds, holds⟩ := own_news h hsz 0 len ho q4
    rw [Nat.zero_mul, List.drop_zero] at holds
    have hlt : (es.take len).length = len := by rw [List.length_take]; omega
    have hbm : m * inf.bytes ≤ 281474976710656 := by
      have : m * ei.bytes ≤ (len + m) * ei.bytes := Nat.mul_le_mul_right _ (by omega)
      rw [hb]; omega
    have hrun := run_append_grow_zeros (P := P) w t t' ty e inf _ hd.1 hint hi hz (by omega) ⟨ι l b, 0, none⟩ len cap olds (by rw [holds.len, hlt, hs]) holds.cell m (by omega) (by omega) (by unfold maxLen at hmax; omega)
      (growslice_fits (by omega) (by rw [hb]; exact hby)) hbm (kk := kk)
    rw [hzc] at hrun
    have hg := h.drop d
    have hge := grownCap_ge w (len + m) cap e
    obtain ⟨hz1, hz2⟩ := news_zeros (w := w) (G := Gd w ι st.O) hei m
    have hzl : (Builtin.zeroCells ei.zero.toArray m).size = m * ei.size := by rw [size_zeroCells]; simp [hei.zero]
    refine Does.drop (mkRow_sound hg (g := w.heap.size) (cap := grownCap w (len + m) cap e) (by rw [ASt.drop_L]; exact ASt.drop_none st d) (below_drew_alloc w _) (Nat.le_refl _)
      (heap_alloc_new w.drew _) ?_ (by rw [List.length_append, List.length_replicate, hlt]; exact hge) (grownCap_le_maxLen w _ _ e (by omega)) (fun i x hx => ?_) (fun i j x y hx hy => ?_) hk (by rw [List.length_append, List.length_replicate, hlt]; exact hrun))
    · simp only [Array.size_append, List.size_toArray, size_zeroCells, holds.len, hlt, hei.zero]
      rw [← Nat.add_mul, ← Nat.add_mul]
      congr 1
      omega
    · rw [List.getElem?_append] at hx
      split at hx
      · exact holds.el _ x hx
      · exact hz1 _ x hx
    · have key : ∃ u, (olds.toArray ++ Builtin.zeroCells ei.zero.toArray m)[i * ei.size + j]? = some u ∧ RepP w (Gd w ι st.O) y u := by
        rw [List.getElem?_append] at hx
        split at hx
        · obtain ⟨u, hu, hr⟩ := holds.rep i j x y hx hy
          exact ⟨u, by rw [Array.getElem?_append_left (by have := (List.getElem?_eq_some_iff.1 hu).1; simpa using this)]; simpa using hu, hr⟩
        · rename_i hi'
          obtain ⟨u, hu, hr⟩ := hz2 _ j x y hx hy
          have hle2 : (es.take len).length * ei.size ≤ i * ei.size := Nat.mul_le_mul_right _ (by omega)
          refine ⟨u, ?_, hr⟩
          rw [Array.getElem?_append_right (by simp only [List.size_toArray, holds.len]; omega)]
          simp only [List.size_toArray, holds.len]
          rw [Array.getElem?_toList] at hu
          rw [← hu]
          congr 1
          rw [Nat.sub_mul]
          omega
      obtain ⟨u, hu, hr⟩ := key
      refine ⟨u, ?_, hr.mono (fun k hk => ⟨drop_Gd st d k hk, rfl⟩)⟩
      have hlt2 : i * ei.size + j < (olds.toArray ++ Builtin.zeroCells ei.zero.toArray m).size := (Array.getElem?_eq_some_iff.1 hu).1
      rw [Array.getElem?_append_left hlt2]
      exact hu
  · exact hk.elim

/-! ### functions of the model that have no body -/
/-- What such a function yields. -/
def Ext (P : Program) (f : FuncId) (avs : List AV) (O : Store) (v : TV) : Prop :=
  ∃ fn e, P.funcs[f]? = some fn ∧ (fn.name == "runtime.NumGoroutine") = false ∧ fn.body.isNone = true ∧ Extern.findNext fn = none ∧ Extern.find fn = some e ∧
    ∀ (w : World) (ι : Nat → Nat → Nat) (vals : List Value), Lies w ι O → vals.length = avs.length → (∀ (i : Nat) (y : AV) (u : Value), avs[i]? = some y → vals[i]? = some u → RepA w (Gd w ι O) ι O y u) →
      ∃ val, (e vals.toArray).run P w = .ok val w ∧ RepT w (Gd w ι O) ι O v val
def acallX (P : Program) (st : ASt) (fop : Operand) (xs : List Operand) (K : TV → ASt → Prop) : Prop :=
  ∃ f avs v, st.ev fop = .a (.s (.clo f [])) ∧ argsOf (xs.map st.ev) = some avs ∧ Ext P f avs st.O v ∧ K v st
theorem acallX_sound (h : Good st a w ι) {fop : Operand} {xs : List Operand} {argTypes : Array TypeId} {dst : Option Tmp} {type : TypeId} {pos : String} {after : Array Edge} {guard : Option (Nat × Bool)} (hk : acallX P st fop xs K) :
    ∃ v val, K v st ∧ RepT w (Gd w ι st.O) ι st.O v val ∧ (execOp a.eval ⟨dst, .call ⟨.value fop, xs.toArray, argTypes⟩, type, pos, after, guard⟩).run P w = .ok (.value val) w := by
  obtain ⟨f, avs, v, hf, hx, ⟨fn, e, h1, h2, h3, h4, h5, h6⟩, hk⟩ := hk
  have hfv := h.ev fop
  rw [hf] at hfv
  obtain ⟨hfv, _⟩ := hfv
  obtain ⟨q1, q2⟩ := argsOf_rep (w := w) (G := Gd w ι st.O) (ι := ι) (O := st.O) (vals := xs.map a.eval) hx (by simp) (fun i y u hy hu => by
    rw [List.getElem?_map] at hy hu
    cases hxi : xs[i]? with
    | none => simp [hxi] at hy
    | some x =>
      simp only [hxi, Option.map_some, Option.some.injEq] at hy hu
      subst hy; subst hu
      exact h.ev x)
  obtain ⟨val, r1, r2⟩ := h6 w ι (xs.map a.eval) h.lies q1.symm q2
  refine ⟨v, val, hk, r2, ?_⟩
  have hc := run_callFunc_extern (P := P) h1 h2 h3 h4 h5 (xs.map a.eval).toArray w
  rw [r1] at hc
  simp only [execOp, resolve, hfv, Deferred.ofValue, Sem.run_bind, Sem.run_pure, Result.andThen_ok, invoke, List.map_toArray]
  simp at hc ⊢
  rw [hc]
end
end Go.Rd

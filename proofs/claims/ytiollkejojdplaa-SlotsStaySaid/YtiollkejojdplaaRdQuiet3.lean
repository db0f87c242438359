/- RD, part 5: addresses, slices of slices and strings, indexes, lengths, functions, structs written out; all quiet operations together. -/
import Derived.Test.YtiollkejojdplaaRdQuiet2
import Derived.Laws.Slices
import Derived.Laws.Tables
namespace Go.Rd
open Go.RowKit

section
variable {B : World → Prop} {P : Program} {T : TypeId → Option TI} {w : World} {ι : Nat → Nat → Nat} {O : Store} {K : TV → Prop}

/-! ### addresses -/
def qFieldAddr (T : TypeId → Option TI) (s : TypeId) (x : TV) (f : Nat) (K : TV → Prop) : Prop :=
  ∃ ti fs off ft fi, T s = some ti ∧ ti.d = .struct fs ∧ fs[f]? = some (off, ft) ∧ T ft = some fi ∧ fi.size ≠ 0 ∧ match x with
    | .a (.s (.pb l b j)) => K (.a (.s (.pb l b (j + off))))
    | .a (.s (.pr l b i j)) => K (.a (.s (.pr l b i (j + off))))
    | .a (.pel esz es i j) => K (.a (.pel esz es i (j + off)))
    | _ => False

theorem qFieldAddr_sound (hT : TOk P T) {s : TypeId} {X : TV} {vx : Value} {f : Nat} (hX : RepT w (Gd w ι O) ι O X vx) (h : qFieldAddr T s X f K) :
    Yields B P w ι O K (Instr.fieldAt s vx f) := by
  obtain ⟨ti, fs, off, ft, fi, h1, h2, h3, h4, h5, h⟩ := h
  have hd := (hT s ti h1).desc
  rw [h2] at hd
  obtain ⟨⟨fa, hu, hfs⟩, _⟩ := hd
  have hfi := hT ft fi h4
  obtain ⟨fld, hf, hoff, hty⟩ : ∃ fld, fa[f]? = some fld ∧ fld.offset = off ∧ fld.type = ft := by
    rw [← hfs, List.getElem?_map] at h3
    cases hq : fa.toList[f]? with
    | none => simp [hq] at h3
    | some fld =>
      simp only [hq, Option.map_some, Option.some.injEq, Prod.mk.injEq] at h3
      exact ⟨fld, by simpa using hq, h3.1, h3.2⟩
  have hrun : ∀ (b o : Nat) (w' : World), (Instr.fieldAt s (.pointer (some ⟨b, o, none⟩)) f).run P w' = .ok (.pointer (some ⟨b, o + off, none⟩)) w' := by
    intro b o w'
    simp only [Instr.fieldAt, Sem.run_bind, run_underlying hu, Result.andThen_ok, hf, run_sureAddr_some, fieldPlace, hty, run_sizeOf_ti w' hfi, h5, if_false, Sem.run_pure, hoff, addr_add]
  split at h
  · obtain ⟨⟨e, cs, ho⟩, rfl⟩ := hX
    exact ⟨_, _, h, ⟨⟨e, cs, ho⟩, rfl⟩, fun w' _ => hrun _ _ w'⟩
  · obtain ⟨e, esz, es, ho, rfl⟩ := hX
    exact ⟨_, _, h, ⟨e, esz, es, ho, by rw [← Nat.add_assoc]⟩, fun w' _ => hrun _ _ w'⟩
  · obtain ⟨blk, o, hr, rfl⟩ := hX
    exact ⟨_, _, h, ⟨blk, o, hr, by rw [← Nat.add_assoc]⟩, fun w' _ => hrun _ _ w'⟩
  · exact h.elim

def qIndexAddr (T : TypeId → Option TI) (t : TypeId) (x i : TV) (K : TV → Prop) : Prop :=
  ∃ ti, T t = some ti ∧ match ti.d, x, i with
    | .slice e, .a (.s (.pv (.row esz es))), .a (.s (.pv (.lit (.int _ n)))) => (∃ ei, T e = some ei ∧ ei.size = esz) ∧ 0 ≤ n ∧ n < es.length ∧ K (.a (.pel esz es n.toNat 0))
    | .slice e, .a (.s (.sl l b off len)), .a (.s (.pv (.lit (.int _ n)))) => (∃ ei, T e = some ei ∧ ∃ e' es, O l b = some (.row e' ei.size es)) ∧ 0 ≤ n ∧ n < len ∧ K (.a (.s (.pr l b (off + n.toNat) 0)))
    | .array m e, .a (.s (.pb l b j)), .a (.s (.pv (.lit (.int _ n)))) => ∃ ei, T e = some ei ∧ 0 ≤ n ∧ n < m ∧ K (.a (.s (.pb l b (j + n.toNat * ei.size))))
    | _, _, _ => False

theorem qIndexAddr_sound (hT : TOk P T) {t : TypeId} {X I : TV} {vx vi : Value} (hX : RepT w (Gd w ι O) ι O X vx) (hI : RepT w (Gd w ι O) ι O I vi)
    (h : qIndexAddr (O := O) T t X I K) : Yields B P w ι O K (Instr.indexAt t vx vi) := by
  obtain ⟨ti, h1, h⟩ := h
  have hd := (hT t ti h1).desc
  split at h
  · rename_i e esz es k n hdq
    rw [hdq] at hd
    obtain ⟨rfl, _⟩ := RepP.lit_inv hI
    obtain ⟨blk, off, cap, rfl, _, _, hr⟩ := RepP.row_inv hX
    obtain ⟨⟨ei, he, hsz⟩, h0, hn, hk⟩ := h
    refine ⟨_, .pointer (some ⟨blk, off + n.toNat * esz, none⟩), hk, ⟨blk, off, hr, rfl⟩, fun w' _ => ?_⟩
    simp only [Instr.indexAt, asIntOf, Sem.run_pure, Sem.run_bind, Result.andThen_ok, run_underlying hd.1, h0, hn, and_self, if_true, run_sizeOf_ti w' (hT e ei he), hsz, addr_add]
  · rename_i e l b off len k n hdq
    rw [hdq] at hd
    obtain ⟨rfl, _⟩ := RepP.lit_inv hI
    obtain ⟨e1, esz, es, cap, c, ho, rfl, _⟩ := hX
    obtain ⟨⟨ei, he, e', es', ho'⟩, h0, hn, hk⟩ := h
    rw [ho] at ho'
    simp only [Option.some.injEq, AObj.row.injEq] at ho'
    obtain ⟨rfl, rfl, rfl⟩ := ho'
    refine ⟨_, .pointer (some ⟨ι l b, off * ei.size + n.toNat * ei.size, none⟩), hk, ⟨_, _, _, ho, by rw [Nat.add_mul, Nat.add_zero]⟩, fun w' _ => ?_⟩
    simp only [Instr.indexAt, asIntOf, Sem.run_pure, Sem.run_bind, Result.andThen_ok, run_underlying hd.1, h0, hn, and_self, if_true, run_sizeOf_ti w' (hT e ei he), addr_add]
  · rename_i m e l b j k n hdq
    rw [hdq] at hd
    obtain ⟨rfl, _⟩ := RepP.lit_inv hI
    obtain ⟨⟨e', cs, ho⟩, rfl⟩ := hX
    obtain ⟨ei, he, h0, hn, hk⟩ := h
    refine ⟨_, .pointer (some ⟨ι l b, j + n.toNat * ei.size, none⟩), hk, ⟨⟨e', cs, ho⟩, rfl⟩, fun w' _ => ?_⟩
    simp only [Instr.indexAt, asIntOf, Sem.run_pure, Sem.run_bind, Result.andThen_ok, run_underlying hd.1, run_sureAddr_some, h0, hn, and_self, if_true, run_sizeOf_ti w' (hT e ei he), addr_add]
  · exact h.elim

/-! ### slices of slices, of strings; an index of a string; lengths -/
def bound (lo : Option TV) (d : Int) (K : Int → Prop) : Prop :=
  match lo with
  | none => K d
  | some (.a (.s (.pv (.lit (.int _ n))))) => K n
  | _ => False

def qSlice (T : TypeId → Option TI) (O : Store) (t : TypeId) (x : TV) (lo hi : Option TV) (K : TV → Prop) : Prop :=
  ∃ ti, T t = some ti ∧ match ti.d, x with
    | .str, .a (.s (.pv (.lit (.string s)))) => bound lo 0 fun l => bound hi s.size fun h => 0 ≤ l ∧ l ≤ h ∧ h ≤ s.size ∧ K (str (s.extract l.toNat h.toNat))
    | .slice e, .a (.s (.pv (.row esz es))) => bound lo 0 fun l => bound hi es.length fun h => (∃ ei, T e = some ei ∧ ei.size = esz) ∧ 0 ≤ l ∧ l ≤ h ∧ h ≤ es.length ∧
        K (row esz ((es.drop l.toNat).take (h.toNat - l.toNat)))
    | .slice e, .a (.s (.sl lv b off len)) => bound lo 0 fun l => bound hi len fun h => (∃ ei, T e = some ei ∧ ∃ e' es, O lv b = some (.row e' ei.size es)) ∧ 0 ≤ l ∧ l ≤ h ∧ h ≤ len ∧ (l = 0 ∨ l < len) ∧
        K (.a (.s (.sl lv b (off + l.toNat) (h.toNat - l.toNat))))
    | .slice e, .a (.s (.slc lv b off len cap)) => bound lo 0 fun l => bound hi len fun h => ∃ ei, T e = some ei ∧ (∃ e' es, O lv b = some (.row e' ei.size es)) ∧ 0 ≤ l ∧ l ≤ h ∧ h ≤ cap ∧
        (l.toNat < cap → K (.a (.s (.slc lv b (off + l.toNat) (h.toNat - l.toNat) (cap - l.toNat))))) ∧ (l.toNat = cap → K (row ei.size []))
    | .slice e, .a (.s (.pv (.lit (.slice none 0 0)))) => bound lo 0 fun l => bound hi 0 fun h => l = 0 ∧ h = 0 ∧ (∃ ei, T e = some ei) ∧ K nilS
    | _, _ => False

def RepOpt (w : World) (G : Nat → Prop) (ι : Nat → Nat → Nat) (O : Store) : Option TV → Option Value → Prop
  | none, none => True
  | some X, some v => RepT w G ι O X v
  | _, _ => False

theorem bound_inv {lo : Option TV} {vlo : Option Value} {d : Int} {F : Int → Prop} (hr : RepOpt w (Gd w ι O) ι O lo vlo) (h : bound lo d F) :
    ∃ l, F l ∧ ((vlo = none ∧ l = d) ∨ ∃ k, vlo = some (.int k l)) := by
  unfold bound at h
  split at h
  · cases vlo with
    | none => exact ⟨d, h, .inl ⟨rfl, rfl⟩⟩
    | some v => exact hr.elim
  · rename_i k n
    cases vlo with
    | none => exact hr.elim
    | some v =>
      obtain ⟨rfl, _⟩ := RepP.lit_inv hr
      exact ⟨n, h, .inr ⟨k, rfl⟩⟩
  · exact h.elim

theorem run_sliceBounds_ok (P : Program) (w' : World) (isS : Bool) (len cap : Nat) {vlo vhi : Option Value} {l h : Int} (hlo : (vlo = none ∧ l = 0) ∨ ∃ k, vlo = some (.int k l))
    (hhi : (vhi = none ∧ h = len) ∨ ∃ k, vhi = some (.int k h)) (h0 : 0 ≤ l) (h1 : l ≤ h) (h2 : h ≤ cap) :
    (Instr.sliceBounds isS len cap vlo vhi none).run P w' = .ok (l.toNat, h.toNat, cap) w' := by
  have e1 : ((h.toNat : Nat) : Int) = h := Int.toNat_of_nonneg (by omega)
  rcases hlo with ⟨rfl, rfl⟩ | ⟨k, rfl⟩ <;> rcases hhi with ⟨rfl, rfl⟩ | ⟨k', rfl⟩
  · simp [Instr.sliceBounds]
  · simp [Instr.sliceBounds, run_sliceBound_if, h2, Int.le_trans h0 h1]
  · simp [Instr.sliceBounds, run_sliceBound_if, h0, h1]
  · simp [Instr.sliceBounds, run_sliceBound_if, h0, h2, Int.le_trans h0 h1, e1, h1]

theorem qSlice_sound (hT : TOk P T) {t : TypeId} {X : TV} {vx : Value} {lo hi : Option TV} {vlo vhi : Option Value} (hX : RepT w (Gd w ι O) ι O X vx)
    (hlo : RepOpt w (Gd w ι O) ι O lo vlo) (hhi : RepOpt w (Gd w ι O) ι O hi vhi) (h : qSlice T O t X lo hi K) : Yields B P w ι O K (Instr.sliceAt t vx vlo vhi none) := by
  obtain ⟨ti, h1, h⟩ := h
  have hd := (hT t ti h1).desc
  split at h
  · rename_i s hdq
    rw [hdq] at hd
    obtain ⟨rfl, _⟩ := RepP.lit_inv hX
    obtain ⟨l, h, el⟩ := bound_inv hlo h
    obtain ⟨u, h, eu⟩ := bound_inv hhi h
    obtain ⟨q0, q1, q2, hk⟩ := h
    exact .lit hk rfl (fun w' => by
      simp only [Instr.sliceAt, Instr.slice, Sem.run_bind, run_underlying hd.1, Result.andThen_ok]
      simp [run_sliceBounds_ok P w' false s.size s.size el eu q0 q1 q2])
  · rename_i e esz es hdq
    rw [hdq] at hd
    obtain ⟨blk, off, cap, rfl, hcap, hmax, hr⟩ := RepP.row_inv hX
    obtain ⟨l, h, el⟩ := bound_inv hlo h
    obtain ⟨u, h, eu⟩ := bound_inv hhi h
    obtain ⟨⟨ei, he, hsz⟩, q0, q1, q2, hk⟩ := h
    have hlen : ((es.drop l.toNat).take (u.toNat - l.toNat)).length = u.toNat - l.toNat := by simp; omega
    have hrun : ∀ w' : World, (Instr.sliceAt t (.slice (some ⟨blk, off, none⟩) es.length cap) vlo vhi none).run P w' =
        .ok (.slice (some ⟨blk, if cap = l.toNat then off else off + l.toNat * esz, none⟩) (u.toNat - l.toNat) (cap - l.toNat)) w' := fun w' => by
      simp only [Instr.sliceAt, Instr.slice, Sem.run_bind, run_underlying hd.1, Result.andThen_ok]
      simp only [run_sliceBounds_ok P w' true es.length cap el eu q0 q1 (by omega), Result.andThen_ok, run_sizeOf_ti w' (hT e ei he), hsz, Sem.run_pure]
      split <;> simp [addr_add]
    refine ⟨_, _, hk, ?_, fun w' _ => hrun w'⟩
    have hrow : RowAt w (Gd w ι O) esz ((es.drop l.toNat).take (u.toNat - l.toNat)) blk (if cap = l.toNat then off else off + l.toNat * esz) := by
      refine ⟨fun i x hx => ?_, fun hne => hr.good (fun h0 => by subst h0; simp at hne), by have := hr.max; omega, fun i j x y hx hy => ?_⟩
      · rw [List.getElem?_take] at hx
        split at hx
        · rw [List.getElem?_drop] at hx; exact hr.len _ _ hx
        · cases hx
      · rw [List.getElem?_take] at hx
        split at hx
        · rename_i hi
          rw [List.getElem?_drop] at hx
          obtain ⟨v, hv, hrv⟩ := hr.cell _ j x y hx hy
          refine ⟨v, ?_, hrv⟩
          rw [if_neg (by omega), ← hv]
          congr 2
          rw [Nat.add_mul]
          omega
        · cases hx
    have := RepP.mk_row (cap := cap - l.toNat) (by omega) (by omega) hrow
    rw [hlen] at this
    exact this
  · rename_i e lv b off len hdq
    rw [hdq] at hd
    obtain ⟨e1, esz, es, cap, c, ho, rfl, p1, p2, p3, p4, p5⟩ := hX
    obtain ⟨l, h, el⟩ := bound_inv hlo h
    obtain ⟨u, h, eu⟩ := bound_inv hhi h
    obtain ⟨⟨ei, he, e', es', ho'⟩, q0, q1, q2, q3, hk⟩ := h
    rw [ho] at ho'
    simp only [Option.some.injEq, AObj.row.injEq] at ho'
    obtain ⟨rfl, rfl, rfl⟩ := ho'
    have hrun : ∀ w' : World, (Instr.sliceAt t (.slice (some ⟨ι lv b, off * ei.size, none⟩) len cap) vlo vhi none).run P w' =
        .ok (.slice (some ⟨ι lv b, if cap = l.toNat then off * ei.size else off * ei.size + l.toNat * ei.size, none⟩) (u.toNat - l.toNat) (cap - l.toNat)) w' := fun w' => by
      simp only [Instr.sliceAt, Instr.slice, Sem.run_bind, run_underlying hd.1, Result.andThen_ok]
      simp only [run_sliceBounds_ok P w' true len cap el eu q0 q1 (by omega), Result.andThen_ok, run_sizeOf_ti w' (hT e ei he), Sem.run_pure]
      split <;> simp [addr_add]
    have hoff : (if cap = l.toNat then off * ei.size else off * ei.size + l.toNat * ei.size) = (off + l.toNat) * ei.size := by
      rcases q3 with rfl | q3
      · simp
      · rw [if_neg (by omega), Nat.add_mul]
    refine ⟨_, _, hk, ⟨_, _, _, cap - l.toNat, c, ho, by rw [hoff], by omega, by omega, by omega, p4, ?_⟩, fun w' _ => hrun w'⟩
    rw [← p5]
    congr 1
    omega
  · rename_i e lv b off len cap hdq
    rw [hdq] at hd
    obtain ⟨e1, esz, es, c, ho, rfl, p2, p3, p4, p5⟩ := hX
    obtain ⟨l, h, el⟩ := bound_inv hlo h
    obtain ⟨u, h, eu⟩ := bound_inv hhi h
    obtain ⟨ei, he, ⟨e', es', ho'⟩, q0, q1, q2, hin, hend⟩ := h
    rw [ho] at ho'
    simp only [Option.some.injEq, AObj.row.injEq] at ho'
    obtain ⟨rfl, rfl, rfl⟩ := ho'
    have hrun : ∀ w' : World, (Instr.sliceAt t (.slice (some ⟨ι lv b, off * ei.size, none⟩) len cap) vlo vhi none).run P w' =
        .ok (.slice (some ⟨ι lv b, if cap = l.toNat then off * ei.size else off * ei.size + l.toNat * ei.size, none⟩) (u.toNat - l.toNat) (cap - l.toNat)) w' := fun w' => by
      simp only [Instr.sliceAt, Instr.slice, Sem.run_bind, run_underlying hd.1, Result.andThen_ok]
      simp only [run_sliceBounds_ok P w' true len cap el eu q0 q1 (by omega), Result.andThen_ok, run_sizeOf_ti w' (hT e ei he), Sem.run_pure]
      split <;> simp [addr_add]
    rcases Nat.lt_or_ge l.toNat cap with hlt | hge
    · refine ⟨_, _, hin hlt, ⟨_, _, _, c, ho, by rw [if_neg (by omega), Nat.add_mul], by omega, by omega, p4, ?_⟩, fun w' _ => hrun w'⟩
      rw [← p5]
      congr 1
      omega
    · have hz : u.toNat - l.toNat = 0 := by omega
      refine ⟨_, _, hend (by omega), ?_, fun w' _ => hrun w'⟩
      have := RepP.mk_row (w := w) (G := Gd w ι O) (esz := ei.size) (es := []) (blk := ι lv b) (off := if cap = l.toNat then off * ei.size else off * ei.size + l.toNat * ei.size) (cap := cap - l.toNat) (by simp) (by omega)
        ⟨fun i x hx => by simp at hx, fun hne => absurd rfl hne, by simp, fun i j x y hx => by simp at hx⟩
      rw [hz]
      exact this
  · rename_i e hdq
    rw [hdq] at hd
    obtain ⟨rfl, _⟩ := RepP.lit_inv hX
    obtain ⟨l, h, el⟩ := bound_inv hlo h
    obtain ⟨u, h, eu⟩ := bound_inv hhi h
    obtain ⟨rfl, rfl, ⟨ei, he⟩, hk⟩ := h
    obtain ⟨inf, hinf, _⟩ := (hT e ei he).info
    exact .lit hk rfl (fun w' => by
      simp only [Instr.sliceAt, Instr.slice, Sem.run_bind, run_underlying hd.1, Result.andThen_ok]
      have hb := run_sliceBounds_ok P w' true 0 0 el (h := 0) (vhi := vhi) eu (by omega) (by omega) (by omega)
      simp only [hb, Result.andThen_ok]
      simp [sizeOf, typeInfo, hinf])
  · exact h.elim

/-- A slice expression with three indexes, of which nobody makes use. -/
def qSlice3 (T : TypeId → Option TI) (t : TypeId) (x lo hi mx : TV) (K : TV → Prop) : Prop :=
  ∃ ti e ei, T t = some ti ∧ ti.d = .slice e ∧ T e = some ei ∧ match x, lo, hi, mx with
    | .a (.s (.slc _ _ _ _ cap)), .a (.s (.pv (.lit (.int _ l)))), .a (.s (.pv (.lit (.int _ h)))), .a (.s (.pv (.lit (.int _ m)))) => 0 ≤ l ∧ l ≤ h ∧ h ≤ m ∧ m ≤ cap ∧ K .undef
    | _, _, _, _ => False
theorem qSlice3_sound (hT : TOk P T) {t : TypeId} {X L H M : TV} {vx vl vh vm : Value} (hX : RepT w (Gd w ι O) ι O X vx) (hl : RepT w (Gd w ι O) ι O L vl) (hh : RepT w (Gd w ι O) ι O H vh) (hm : RepT w (Gd w ι O) ι O M vm)
    (h : qSlice3 T t X L H M K) : Yields B P w ι O K (Instr.sliceAt t vx (some vl) (some vh) (some vm)) := by
  obtain ⟨ti, e, ei, h1, h2, h3, h⟩ := h
  have hd := (hT t ti h1).desc
  rw [h2] at hd
  split at h
  · rename_i lv b off len cap k1 l k2 hh' k3 m
    obtain ⟨rfl, _⟩ := RepP.lit_inv hl
    obtain ⟨rfl, _⟩ := RepP.lit_inv hh
    obtain ⟨rfl, _⟩ := RepP.lit_inv hm
    obtain ⟨e1, esz, es, c, ho, rfl, p2, p3, p4, p5⟩ := hX
    obtain ⟨q0, q1, q2, q3, hk⟩ := h
    have em : ((m.toNat : Nat) : Int) = m := Int.toNat_of_nonneg (by omega)
    have eh : ((hh'.toNat : Nat) : Int) = hh' := Int.toNat_of_nonneg (by omega)
    have hb : ∀ w' : World, (Instr.sliceBounds true len cap (some (.int k1 l)) (some (.int k2 hh')) (some (.int k3 m))).run P w' = .ok (l.toNat, hh'.toNat, m.toNat) w' := fun w' => by
      simp [Instr.sliceBounds, run_sliceBound_if, q0, q1, q2, q3, em, eh, show 0 ≤ m by omega, show 0 ≤ hh' by omega]
    refine ⟨.undef, .slice (some (if m.toNat = l.toNat then ⟨ι lv b, off * esz, none⟩ else (⟨ι lv b, off * esz, none⟩ : Addr).add (l.toNat * ei.size))) (hh'.toNat - l.toNat) (m.toNat - l.toNat), hk, trivial, fun w' _ => ?_⟩
    simp only [Instr.sliceAt, Instr.slice, Sem.run_bind, run_underlying hd.1, Result.andThen_ok]
    simp only [hb w', Result.andThen_ok, run_sizeOf_ti w' (hT e ei h3), Sem.run_pure]
    split <;> simp_all
  · exact h.elim

def qIndex (P : Program) (t : TypeId) (x i : TV) (K : TV → Prop) : Prop :=
  match x, i with
  | .a (.s (.pv (.lit (.string s)))), .a (.s (.pv (.lit (.int _ n)))) => P.underlying t = some .string ∧ 0 ≤ n ∧ ∃ b, s.data[n.toNat]? = some b ∧ K (lit (.int .u8 b.toNat))
  | _, _ => False

theorem qIndex_sound {t : TypeId} {X I : TV} {vx vi : Value} (hX : RepT w (Gd w ι O) ι O X vx) (hI : RepT w (Gd w ι O) ι O I vi) (h : qIndex P t X I K) :
    Yields B P w ι O K (Instr.index t vx vi) := by
  unfold qIndex at h
  split at h
  · rename_i s k n
    obtain ⟨rfl, _⟩ := RepP.lit_inv hX
    obtain ⟨rfl, _⟩ := RepP.lit_inv hI
    obtain ⟨hu, h0, b, hb, hk⟩ := h
    refine .lit hk rfl (fun w' => ?_)
    have hs : s[n.toNat]? = some b := by
      obtain ⟨hlt, he⟩ := Array.getElem?_eq_some_iff.1 hb
      have : n.toNat < s.size := hlt
      rw [getElem?_pos s n.toNat this]
      exact congrArg some he
    simp [Instr.index, asIntOf, run_underlying hu, h0, hs]
  · exact h.elim

def qLen (P : Program) (t : TypeId) (x : TV) (K : TV → Prop) : Prop :=
  match x with
  | .a (.s (.pv (.lit (.string s)))) => P.underlying t = some .string ∧ K (int s.size)
  | .a (.s (.pv (.row _ es))) => (∃ e, P.underlying t = some (.slice e)) ∧ (es.length ≤ maxLen → K (int es.length))
  | .a (.s (.sl _ _ _ len)) => (∃ e, P.underlying t = some (.slice e)) ∧ (len ≤ maxLen → K (int len))
  | .a (.s (.slc _ _ _ len _)) => (∃ e, P.underlying t = some (.slice e)) ∧ (len ≤ maxLen → K (int len))
  | .a (.s (.pv (.lit (.slice none 0 0)))) => (∃ e, P.underlying t = some (.slice e)) ∧ K (int 0)
  | _ => False

theorem qLen_sound {t ty : TypeId} {X : TV} {vx : Value} (hX : RepT w (Gd w ι O) ι O X vx) (h : qLen P t X K) : Yields B P w ι O K (Builtin.len_ #[t] ty #[vx]) := by
  unfold qLen at h
  split at h
  · obtain ⟨rfl, _⟩ := RepP.lit_inv hX
    exact .lit h.2 rfl (fun w' => by simp [Builtin.len_, run_underlying h.1, goInt])
  · obtain ⟨blk, off, cap, rfl, hcap, hmax, hr⟩ := RepP.row_inv hX
    obtain ⟨⟨e, hu⟩, h⟩ := h
    exact .lit (h hr.max) rfl (fun w' => by simp [Builtin.len_, run_underlying hu, goInt])
  · obtain ⟨e1, esz, es, cap, c, ho, rfl, p1, p2, p3, p4, p5⟩ := hX
    obtain ⟨⟨e, hu⟩, h⟩ := h
    exact .lit (h (by omega)) rfl (fun w' => by simp [Builtin.len_, run_underlying hu, goInt])
  · obtain ⟨e1, esz, es, c, ho, rfl, p2, p3, p4, p5⟩ := hX
    obtain ⟨⟨e, hu⟩, h⟩ := h
    exact .lit (h (by omega)) rfl (fun w' => by simp [Builtin.len_, run_underlying hu, goInt])
  · obtain ⟨rfl, _⟩ := RepP.lit_inv hX
    obtain ⟨⟨e, hu⟩, h⟩ := h
    exact .lit h rfl (fun w' => by simp [Builtin.len_, run_underlying hu, goInt])
  · exact h.elim

def qCap (P : Program) (t : TypeId) (x : TV) (K : TV → Prop) : Prop :=
  match x with
  | .a (.s (.slc _ _ _ _ cap)) => (∃ e, P.underlying t = some (.slice e)) ∧ (cap ≤ maxLen → K (int cap))
  | _ => False
theorem qCap_sound {t ty : TypeId} {X : TV} {vx : Value} (hX : RepT w (Gd w ι O) ι O X vx) (h : qCap P t X K) : Yields B P w ι O K (Builtin.cap_ #[t] ty #[vx]) := by
  unfold qCap at h
  split at h
  · obtain ⟨e1, esz, es, c, ho, rfl, p2, p3, p4, p5⟩ := hX
    obtain ⟨⟨e, hu⟩, h⟩ := h
    exact .lit (h (by omega)) rfl (fun w' => by simp [Builtin.cap_, run_underlying hu, goInt])
  · exact h.elim

/-! ### functions with what they have captured -/
def boxesOf : List TV → Option (List (Nat × Nat))
  | [] => some []
  | .a (.s (.pb l b 0)) :: r => (boxesOf r).map ((l, b) :: ·)
  | _ :: _ => none

def qFunc (fn : Fn) (first : Array Operand) (caps : List TV) (K : TV → Prop) : Prop :=
  match fn with
  | .func f => first = #[] ∧ ∃ bs, boxesOf caps = some bs ∧ K (.a (.s (.clo f bs)))
  | _ => False

theorem boxesOf_rep : ∀ {caps : List TV} {bs : List (Nat × Nat)} {vs : List Value}, boxesOf caps = some bs → vs.length = caps.length →
    (∀ (j : Nat) (y : TV) (u : Value), caps[j]? = some y → vs[j]? = some u → RepT w (Gd w ι O) ι O y u) →
    vs = bs.map (fun p => Value.pointer (some ⟨ι p.1 p.2, 0, none⟩)) ∧ ∀ p ∈ bs, ∃ e cs, O p.1 p.2 = some (.box e cs)
  | [], bs, vs, h, hl, _ => by
    simp only [boxesOf, Option.some.injEq] at h
    subst h
    exact ⟨List.eq_nil_of_length_eq_zero (by simpa using hl), by simp⟩
  | y :: r, bs, vs, h, hl, hr => by
    unfold boxesOf at h
    split at h
    · rename_i hh; cases hh
    · rename_i l b r' hh
      obtain ⟨rfl, rfl⟩ := List.cons.inj hh
      cases hb : boxesOf r with
      | none => simp [hb] at h
      | some bs' =>
        simp only [hb, Option.map_some, Option.some.injEq] at h
        subst h
        cases vs with
        | nil => simp at hl
        | cons v vs =>
          obtain ⟨he, rfl⟩ := hr 0 _ v rfl rfl
          obtain ⟨h1, h2⟩ := boxesOf_rep hb (by simpa using hl) (fun j y u hy hu => hr (j + 1) y u (by simpa using hy) (by simpa using hu))
          refine ⟨by rw [h1]; rfl, fun p hp => ?_⟩
          rcases List.mem_cons.1 hp with rfl | hp
          · exact he
          · exact h2 p hp
    · cases h

/-! ### structs written out -/
/-- A part laid into the cells. -/
def lay (cs : List SV) (off : Nat) (x : List SV) : List SV := cs.take off ++ x ++ cs.drop (off + x.length)
def fillA (T : TypeId → Option TI) (fs : List (Nat × TypeId)) (ev : Operand → TV) : List SV → List (Nat × Operand) → (List SV → Prop) → Prop
  | cs, [], K => K cs
  | cs, (i, x) :: r, K => ∃ off ft fi, fs[i]? = some (off, ft) ∧ T ft = some fi ∧ off + fi.size ≤ cs.length ∧ match ev x with
    | .a (.s v) => fi.size = 1 ∧ fillA T fs ev (lay cs off [v]) r K
    | .a (.agg vs) => vs.length = fi.size ∧ fillA T fs ev (lay cs off vs) r K
    | _ => False

def qBuild (T : TypeId → Option TI) (t : TypeId) (ev : Operand → TV) (parts : Array (Nat × Operand)) (K : TV → Prop) : Prop :=
  ∃ ti fs, T t = some ti ∧ ti.d = .struct fs ∧ (∀ p ∈ fs, (T p.2).isSome = true) ∧ fillA T fs ev (ti.zero.map fun v => .pv (.lit v)) parts.toList fun cs => K (.a (.agg cs))

theorem foldl_set (off : Nat) : ∀ (l : List Value) (j0 : Nat) (c : Array Value), off + j0 + l.length ≤ c.size →
    ((l.zipIdx j0).foldl (fun cs p => cs.setIfInBounds (off + p.2) p.1) c).size = c.size ∧
    ∀ k, ((l.zipIdx j0).foldl (fun cs p => cs.setIfInBounds (off + p.2) p.1) c)[k]? = if off + j0 ≤ k ∧ k < off + j0 + l.length then l[k - (off + j0)]? else c[k]?
  | [], j0, c, _ => ⟨rfl, fun k => by rw [if_neg (by simp only [List.length_nil]; omega)]; rfl⟩
  | v :: l, j0, c, h => by
    simp only [List.length_cons] at h
    obtain ⟨h1, h2⟩ := foldl_set off l (j0 + 1) (c.setIfInBounds (off + j0) v) (by simp; omega)
    simp only [List.zipIdx_cons, List.foldl_cons]
    refine ⟨by rw [h1]; simp, fun k => ?_⟩
    rw [h2 k]
    by_cases hk : k = off + j0
    · subst hk
      rw [if_neg (by omega), if_pos (by simp), Array.getElem?_setIfInBounds_self_of_lt (by omega)]
      simp
    · rw [Array.getElem?_setIfInBounds_ne (by omega)]
      by_cases hin : off + (j0 + 1) ≤ k ∧ k < off + (j0 + 1) + l.length
      · rw [if_pos hin, if_pos (by simp only [List.length_cons]; omega)]
        rw [show k - (off + j0) = (k - (off + (j0 + 1))) + 1 by omega]
        simp
      · rw [if_neg hin, if_neg (by simp only [List.length_cons]; omega)]

/-- Cells represent cells. -/
def RepC (w : World) (G : Nat → Prop) (ι : Nat → Nat → Nat) (O : Store) (xs : List SV) (c : Array Value) : Prop :=
  c.size = xs.length ∧ ∀ (j : Nat) (y : SV), xs[j]? = some y → ∃ u, c[j]? = some u ∧ RepS w G ι O y u

theorem lay_getElem? (cs : List SV) (off : Nat) (x : List SV) (h : off + x.length ≤ cs.length) (k : Nat) :
    (lay cs off x)[k]? = if off ≤ k ∧ k < off + x.length then x[k - off]? else cs[k]? := by
  unfold lay
  by_cases h1 : k < off
  · rw [if_neg (by omega), List.append_assoc, List.getElem?_append_left (by simp; omega), List.getElem?_take, if_pos h1]
  · by_cases h2 : k < off + x.length
    · rw [if_pos (by omega), List.getElem?_append_left (by simp; omega), List.getElem?_append_right (by simp; omega)]
      congr 1
      simp
      omega
    · rw [if_neg (by omega), List.getElem?_append_right (by simp; omega), List.getElem?_drop]
      congr 1
      simp
      omega

theorem lay_rep {G : Nat → Prop} {cs : List SV} {c : Array Value} {off : Nat} {x : List SV} {v : Array Value} (hc : RepC w G ι O cs c) (hx : RepC w G ι O x v)
    (h : off + x.length ≤ cs.length) : RepC w G ι O (lay cs off x) (v.zipIdx.foldl (fun cs p => cs.setIfInBounds (off + p.2) p.1) c) := by
  have he : v.zipIdx.foldl (fun cs p => cs.setIfInBounds (off + p.2) p.1) c = (v.toList.zipIdx).foldl (fun cs p => cs.setIfInBounds (off + p.2) p.1) c := by
    rw [← Array.foldl_toList, Array.toList_zipIdx]
  have hl : v.toList.length = x.length := by rw [Array.length_toList]; exact hx.1
  obtain ⟨h1, h2⟩ := foldl_set off v.toList 0 c (by rw [hl, hc.1]; omega)
  rw [he]
  refine ⟨by rw [h1, hc.1]; unfold lay; simp only [List.length_append, List.length_take, List.length_drop]; omega, fun k y hy => ?_⟩
  rw [lay_getElem? cs off x h k] at hy
  rw [h2 k]
  by_cases hin : off ≤ k ∧ k < off + x.length
  · rw [if_pos hin] at hy
    rw [if_pos (by omega)]
    obtain ⟨u, hu, hr⟩ := hx.2 _ y hy
    exact ⟨u, by simpa using hu, hr⟩
  · rw [if_neg hin] at hy
    rw [if_neg (by omega)]
    exact hc.2 k y hy

theorem fillA_sound (hT : TOk P T) {fs : List (Nat × TypeId)} {places : List (Nat × Nat)} (hpl : ∀ (i off : Nat) (ft : TypeId) (fi : TI), fs[i]? = some (off, ft) → T ft = some fi → places[i]? = some (off, fi.size))
    {ev : Operand → TV} {ev' : Operand → Value} (hev : ∀ x, RepT w (Gd w ι O) ι O (ev x) (ev' x)) {K : List SV → Prop} :
    ∀ (parts : List (Nat × Operand)) (cs : List SV) (c : Array Value), RepC w (Gd w ι O) ι O cs c → fillA T fs ev cs parts K →
      ∃ cs' c', K cs' ∧ RepC w (Gd w ι O) ι O cs' c' ∧ Instr.fill (places.toArray[·]?) c (parts.map fun p => (p.1, ev' p.2)) = some c'
  | [], cs, c, hc, h => ⟨cs, c, h, hc, rfl⟩
  | (i, x) :: r, cs, c, hc, h => by
    obtain ⟨off, ft, fi, h1, h2, h3, h⟩ := h
    have hp := hpl i off ft fi h1 h2
    have hx := hev x
    have step : ∀ (v : List SV), RepC w (Gd w ι O) ι O v (ev' x).cells → v.length = fi.size → fillA T fs ev (lay cs off v) r K →
        ∃ cs' c', K cs' ∧ RepC w (Gd w ι O) ι O cs' c' ∧ Instr.fill (places.toArray[·]?) c (((i, x) :: r).map fun p => (p.1, ev' p.2)) = some c' := by
      intro v hv hvl hf
      obtain ⟨cs', c', k1, k2, k3⟩ := fillA_sound hT hpl hev r _ _ (lay_rep hc hv (by omega)) hf
      refine ⟨cs', c', k1, k2, ?_⟩
      have hsz : (ev' x).cells.size = fi.size := by rw [hv.1, hvl]
      have e1 : (places.toArray[i]? : Option (Nat × Nat)) = some (off, fi.size) := by simpa using hp
      simp only [List.map_cons, Instr.fill, e1]
      rw [if_neg (by
        have := hc.1
        simp only [hsz, ne_eq, not_true_eq_false, decide_false, Bool.false_or, decide_eq_true_eq]
        omega)]
      exact k3
    split at h
    · rename_i v hv
      rw [hv] at hx
      have hone := RepS.one hx
      have hcell : (ev' x).cells = #[ev' x] := by
        revert hone
        cases ev' x <;> simp [Value.cells, Value.oneCell']
      exact step [v] (by
        rw [hcell]
        refine ⟨rfl, fun j y hy => ?_⟩
        cases j with
        | zero => simp at hy; subst hy; exact ⟨_, rfl, hx⟩
        | succ j => simp at hy) (by simp; exact h.1.symm) h.2
    · rename_i vs hv
      rw [hv] at hx
      obtain ⟨cx, hcx, hl, hcc⟩ := hx
      exact step vs (by rw [hcx]; exact ⟨hl, hcc⟩) h.1 h.2
    · exact h.elim

theorem rep_lits {G : Nat → Prop} (l : List Value) (h : l.all (·.oneCell') = true) : RepC w G ι O (l.map fun v => .pv (.lit v)) l.toArray := by
  refine ⟨by simp, fun j y hy => ?_⟩
  rw [List.getElem?_map] at hy
  cases hl : l[j]? with
  | none => simp [hl] at hy
  | some u =>
    simp only [hl, Option.map_some, Option.some.injEq] at hy
    subst hy
    exact ⟨u, by simpa using hl, RepP.lit _ (List.all_eq_true.1 h u (List.mem_of_getElem? hl))⟩

theorem qBuild_sound (hT : TOk P T) {t : TypeId} {ev : Operand → TV} {ev' : Operand → Value} (hev : ∀ x, RepT w (Gd w ι O) ι O (ev x) (ev' x)) {parts : Array (Nat × Operand)}
    (h : qBuild T t ev parts K) : Yields B P w ι O K (Instr.build t (parts.map fun p => (p.1, ev' p.2))) := by
  obtain ⟨ti, fs, h1, h2, h3, h⟩ := h
  have hti := hT t ti h1
  obtain ⟨inf, hi, hs, hb, hz⟩ := hti.info
  have hd := hti.desc
  rw [h2] at hd
  obtain ⟨⟨fa, hu, hfs⟩, hagg⟩ := hd
  rw [hagg, if_pos rfl] at hz
  have hmap : ∀ (l : List Field) (fs : List (Nat × TypeId)), l.map (fun x => (x.offset, x.type)) = fs → (∀ p ∈ fs, (T p.2).isSome = true) →
      ∃ places, l.mapM (fun f => (P.info? f.type).map fun i => (f.offset, i.size)) = some places ∧
        ∀ (i off : Nat) (ft : TypeId) (fi : TI), fs[i]? = some (off, ft) → T ft = some fi → places[i]? = some (off, fi.size) := by
    intro l
    induction l with
    | nil => intro fs hf _; subst hf; exact ⟨[], rfl, by simp⟩
    | cons f l ih =>
      intro fs hf hall
      subst hf
      obtain ⟨pl, hpl, hq⟩ := ih _ rfl (fun p hp => hall p (List.mem_cons_of_mem _ hp))
      obtain ⟨fi, hfi⟩ := Option.isSome_iff_exists.1 (hall (f.offset, f.type) (by simp))
      obtain ⟨inf', hi', hs', _⟩ := (hT _ fi hfi).info
      refine ⟨(f.offset, inf'.size) :: pl, by simp [List.mapM_cons, hi', hpl], fun i off ft fi' he hfi' => ?_⟩
      cases i with
      | zero =>
        simp only [List.map_cons, List.getElem?_cons_zero, Option.some.injEq, Prod.mk.injEq] at he
        obtain ⟨rfl, rfl⟩ := he
        rw [hfi'] at hfi
        cases hfi
        simp [hs']
      | succ i => exact hq i off ft fi' (by simpa using he) hfi'
  obtain ⟨places, hp, hpl⟩ := hmap fa.toList fs hfs h3
  obtain ⟨cs', c', k1, k2, k3⟩ := fillA_sound hT hpl hev parts.toList _ _ (rep_lits (w := w) (G := Gd w ι O) (ι := ι) (O := O) ti.zero hti.one) h
  refine ⟨_, .agg c', k1, ⟨c', rfl, k2⟩, fun w' _ => run_build w' t _ c' ?_⟩
  unfold Program.built
  simp only [hi, hu, hz, hp]
  rw [← k3]
  congr 1
  simp

/-! ### parts of a struct by value, and checks -/
def qField (T : TypeId → Option TI) (t : TypeId) (x : TV) (f : Nat) (K : TV → Prop) : Prop :=
  ∃ ti fs off ft fi, T t = some ti ∧ ti.d = .struct fs ∧ fs[f]? = some (off, ft) ∧ T ft = some fi ∧ match x with
    | .a (.agg cs) => cellsK fi cs off K
    | _ => False

theorem qField_sound (hT : TOk P T) {t : TypeId} {X : TV} {vx : Value} {f : Nat} (hX : RepT w (Gd w ι O) ι O X vx) (h : qField T t X f K) :
    Yields B P w ι O K (Instr.field t vx f) := by
  obtain ⟨ti, fs, off, ft, fi, h1, h2, h3, h4, h⟩ := h
  have hd := (hT t ti h1).desc
  rw [h2] at hd
  obtain ⟨⟨fa, hu, hfs⟩, _⟩ := hd
  have hfi := hT ft fi h4
  obtain ⟨fld, hf, hoff, hty⟩ : ∃ fld, fa[f]? = some fld ∧ fld.offset = off ∧ fld.type = ft := by
    rw [← hfs, List.getElem?_map] at h3
    cases hq : fa.toList[f]? with
    | none => simp [hq] at h3
    | some fld =>
      simp only [hq, Option.map_some, Option.some.injEq, Prod.mk.injEq] at h3
      exact ⟨fld, by simpa using hq, h3.1, h3.2⟩
  split at h
  · rename_i xs
    obtain ⟨cs, rfl, hl, hc⟩ := hX
    unfold cellsK at h
    split at h
    · rename_i hagg
      obtain ⟨hlen, hk⟩ := h
      refine ⟨_, .agg (cs.extract off (off + fi.size)), hk, ⟨_, rfl, by simp; omega, fun j y hy => ?_⟩, fun w' _ => ?_⟩
      · rw [List.getElem?_take] at hy
        split at hy
        · rename_i hj
          rw [List.getElem?_drop] at hy
          obtain ⟨u, hu', hr⟩ := hc _ y hy
          refine ⟨u, ?_, hr⟩
          rw [Array.getElem?_extract, if_pos (by rw [Nat.min_def]; split <;> omega)]
          exact hu'
        · cases hy
      · simp only [Instr.field, Sem.run_bind, run_underlying hu, Result.andThen_ok, hf, asAgg, Sem.run_pure, part, hty, run_isAgg_ti w' hfi, hagg, if_true, run_sizeOf_ti w' hfi, hoff]
    · rename_i hagg
      obtain ⟨s, hs, hk⟩ := h
      obtain ⟨u, hu', hr⟩ := hc _ s hs
      refine ⟨_, u, hk, hr, fun w' _ => ?_⟩
      simp only [Instr.field, Sem.run_bind, run_underlying hu, Result.andThen_ok, hf, asAgg, Sem.run_pure, part, hty, run_isAgg_ti w' hfi, hagg, Bool.false_eq_true, if_false, hoff, hu']
  · exact h.elim

def qNil (x : TV) (K : TV → Prop) : Prop :=
  match x with
  | .a (.s (.pb ..)) | .a (.s (.pr ..)) | .a (.pel ..) => K x
  | .a (.s (.clo ..)) => K x
  | _ => False
end
end Go.Rd

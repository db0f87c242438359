/- RD, part 19b: regions in any order; slices that know their capacity. -/
import Derived.Test.YtiollkejojdplaaRdStep4
namespace Go.Rd
open Go.RowKit Go.Proofs

section
variable {rd : Bool}
variable {P : Program} {T : TypeId → Option TI} {L n : Nat} {tm tm' : List (Nat × TV)} {S : Store} {own own' : List (Nat × AObj)} {ops rest : List Oper} {Q : ASt → Prop}

/-! ### any order -/
theorem c_regionA {Q : Exit → ASt → Prop} {k : Nat} {l : List Oper} {st : ASt} (m : Nat) (hm : l.length = m) (h : dany P T rd l m (Array.replicate m false) (Q .normal) st) : awp P T rd (.region k l.toArray true) Q st := by
  subst hm
  unfold awp
  rw [if_pos rfl]
  exact .inr (by simpa using h)
theorem d_done {fuel : Nat} {listed : Array Bool} {st : ASt} (hr : Region.ready .any ops.toArray listed = []) (h : Q st) : dany P T rd ops fuel listed Q st := by
  cases fuel with
  | zero => exact ⟨hr, h⟩
  | succ f => exact .inl ⟨hr, h⟩
theorem d_take (hT : TOk P T) {fuel : Nat} {listed : Array Bool} (i : Nat) {d : Tmp} {op : Op} {ty : TypeId} {pos : String} {af : Array Edge} {v : TV} (ho : ops[i]? = some ⟨some d, op, ty, pos, af, none⟩) (hl : isLoad op = false) (hq : isQ ⟨some d, op, ty, pos, af, none⟩ = true)
    (hs : Region.noSelect ops.toArray = true) (hf : Region.free .any ops.toArray listed i = true) (hr : (Region.ready .any ops.toArray listed).contains i = true) (hv : xqf T tm op = some v) (hd : Nat.blt d n = true)
    (h : dany P T false ops fuel (listed.setIfInBounds i true) Q (St L n ((d, v) :: tm) S own)) : dany P T false ops (fuel + 1) listed Q (St L n tm S own) := by
  refine .inr (.inl ⟨rfl, i, _, ho, hl, hs, hf, hr, ?_⟩)
  show xq P T (St L n tm S own) op fun v => (St L n tm S own).put (some d) v (dany P T false ops fuel (listed.setIfInBounds i true) Q)
  have := xqf_ok (P := P) (L := L) (n := n) (S := S) (own := own) hT (d := d) (K := fun v s => (St L n tm S own).put (some d) v (dany P T false ops fuel (listed.setIfInBounds i true) Q)) hv (put_some hd h)
  rw [show x1 P T (St L n tm S own) d op _ = _ from x1_quiet (o := ⟨some d, op, ty, pos, af, none⟩) hq] at this
  exact this
theorem d_one {fuel : Nat} {listed : Array Bool} {st : ASt} (i : Nat) {dst : Option Tmp} {op : Op} {ty : TypeId} {pos : String} {af : Array Edge} (hr : Region.ready .any ops.toArray listed = [i]) (ho : ops[i]? = some ⟨dst, op, ty, pos, af, none⟩)
    (h : aop1 P T ops [] (dany P T rd ops fuel (listed.setIfInBounds i true) Q) ⟨dst, op, ty, pos, af, none⟩ st) : dany P T rd ops (fuel + 1) listed Q st := by
  refine .inr (.inr ⟨_, hr, by simp, fun j hj => ?_⟩)
  rw [List.mem_singleton] at hj
  subst hj
  exact ⟨_, ho, h⟩
theorem d_two {fuel : Nat} {listed : Array Bool} {st : ASt} (i j : Nat) {dst dst2 : Option Tmp} {op op2 : Op} {ty ty2 : TypeId} {pos pos2 : String} {af af2 : Array Edge} (hr : Region.ready .any ops.toArray listed = [i, j]) (ho : ops[i]? = some ⟨dst, op, ty, pos, af, none⟩)
    (ho2 : ops[j]? = some ⟨dst2, op2, ty2, pos2, af2, none⟩)
    (h : aop1 P T ops [] (dany P T rd ops fuel (listed.setIfInBounds i true) Q) ⟨dst, op, ty, pos, af, none⟩ st)
    (h2 : aop1 P T ops [] (dany P T rd ops fuel (listed.setIfInBounds j true) Q) ⟨dst2, op2, ty2, pos2, af2, none⟩ st) : dany P T rd ops (fuel + 1) listed Q st := by
  refine .inr (.inr ⟨_, hr, by simp, fun k hk => ?_⟩)
  simp only [List.mem_cons, List.not_mem_nil, or_false] at hk
  rcases hk with rfl | rfl
  · exact ⟨_, ho, h⟩
  · exact ⟨_, ho2, h2⟩

/-! ### contracts and slices that know their capacity -/
theorem AC_reveal {f : FuncId} {l b off len : Nat} {args : List AV} {R : RV → Store → Prop} (h : ∀ N, len ≤ N → N ≤ maxLen → AC P L f (.s (.slc l b off len N) :: args) S R) (hm : len ≤ maxLen) : AC P L f (.s (.sl l b off len) :: args) S R := by
  refine ⟨(h len (Nat.le_refl _) hm).1, fun w ι vals h1 h2 h3 h4 h5 => ?_⟩
  cases vals with
  | nil => simp at h4
  | cons v vals =>
    obtain ⟨e, esz, es, cap, c, ho, hv, q1, q2, q3, q4, q5⟩ := h5 0 _ v rfl rfl
    refine (h cap q2 q3).2 w ι (v :: vals) h1 h2 h3 (by simpa using h4) (fun i y u hy hu => ?_)
    cases i with
    | zero =>
      simp only [List.getElem?_cons_zero, Option.some.injEq] at hy hu
      subst hy; subst hu
      exact ⟨e, esz, es, c, ho, hv, q2, q3, q4, q5⟩
    | succ i => exact h5 (i + 1) y u (by simpa using hy) (by simpa using hu)

theorem AC_slOut {f : FuncId} {args : List AV} {R : RV → Store → Prop}
    (h : AC P L f args S fun r S' => R r S' ∨ ∃ l b len N e esz es, r = .val (.a (.s (.slc l b 0 len N))) ∧ S' l b = some (.row e esz es) ∧ len ≤ es.length ∧ R (.val (.a (.s (.sl l b 0 len)))) S') : AC P L f args S R := by
  refine ⟨h.1, fun w ι vals h1 h2 h3 h4 h5 => (h.2 w ι vals h1 h2 h3 h4 h5).mono fun e w' ⟨r, S', v, ι', hR, q1, q2, q3, q4, q5, q6⟩ => ?_⟩
  rcases hR with hR | ⟨l, b, len, N, e1, esz, es, rfl, ho, hle, hR⟩
  · exact ⟨r, S', v, ι', hR, q1, q2, q3, q4, q5, q6⟩
  · refine ⟨_, S', v, ι', hR, q1, q2, q3, q4, q5, ?_⟩
    obtain ⟨e2, esz2, es2, c, ho2, hv, p2, p3, p4, p5⟩ := q6
    have ho2 : S' l b = some (.row e2 esz2 es2) := ho2
    rw [ho] at ho2
    simp only [Option.some.injEq, AObj.row.injEq] at ho2
    obtain ⟨rfl, rfl, rfl⟩ := ho2
    exact ⟨e1, esz, es, N, c, ho, hv, by omega, p2, p3, p4, p5⟩
end
end Go.Rd

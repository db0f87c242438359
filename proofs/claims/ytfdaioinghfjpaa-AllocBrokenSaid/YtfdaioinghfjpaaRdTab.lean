/- RD, part 20: a table of types. -/
import Derived.Test.YtfdaioinghfjpaaRdD
namespace Go.Rd
open Go.RowKit Go.Proofs

def tlook : List (Nat × TI) → Nat → Option TI
  | [], _ => none
  | (k, i) :: r, t => match Nat.beq t k with
    | true => some i
    | false => tlook r t
theorem tok_nil {P : Program} : TOk P (tlook []) := fun _ _ h => by cases h
theorem tok_cons {P : Program} {k : Nat} {i : TI} {r : List (Nat × TI)} (h : i.ok P k) (hr : TOk P (tlook r)) : TOk P (tlook ((k, i) :: r)) := by
  intro t j hj
  have hj : (match Nat.beq t k with | true => some i | false => tlook r t) = some j := hj
  cases hb : Nat.beq t k with
  | true =>
    rw [hb] at hj
    have e : i = j := Option.some.inj hj
    have := Nat.eq_of_beq_eq_true hb
    subst this
    rw [← e]
    exact h
  | false => rw [hb] at hj; exact hr t j hj
theorem ti_ok {P : Program} {t : TypeId} {d : TD} {agg : Bool} {size bytes : Nat} {zero : List Value} (hi : (P.info? t).map (fun i => (i.zero, i.size, i.bytes)) = some (some (if agg then .agg zero.toArray else zero.headD undef), size, bytes))
    (hz : zero.length = size) (ho : zero.all (·.oneCell') = true) (hd : d.ok P t agg) (hs : agg = false → size = 1) : TI.ok P t ⟨d, agg, size, bytes, zero⟩ := by
  refine ⟨?_, hz, ho, hd, hs⟩
  cases h : P.info? t with
  | none => rw [h] at hi; cases hi
  | some inf =>
    rw [h] at hi
    simp only [Option.map_some, Option.some.injEq, Prod.mk.injEq] at hi
    exact ⟨inf, rfl, hi.2.1, hi.2.2, hi.1⟩
def structOf (P : Program) (t : TypeId) : Option (List (Nat × TypeId)) := match P.underlying t with
  | some (.struct f) => some (f.toList.map fun x => (x.offset, x.type))
  | _ => none
theorem struct_ok {P : Program} {t : TypeId} {fs : List (Nat × TypeId)} (h : structOf P t = some fs) : (TD.struct fs).ok P t true := by
  unfold structOf at h
  split at h
  · rename_i f hf
    simp only [Option.some.injEq] at h
    exact ⟨⟨f, hf, h⟩, rfl⟩
  · cases h
def isOther (P : Program) (t : TypeId) : Bool := match P.underlying t with
  | some (.struct _) => false
  | some (.array _ _) => false
  | some _ => true
  | none => false
theorem other_ok {P : Program} {t : TypeId} (h : isOther P t = true) : TD.other.ok P t false := by
  unfold isOther at h
  cases hd : P.underlying t with
  | none => rw [hd] at h; cases h
  | some d =>
    rw [hd] at h
    refine ⟨⟨d, hd, ?_⟩, rfl⟩
    cases d <;> first | rfl | cases h
section
variable {P : Program} {d : Nat} {xs ys : Array Value} {f : Field} {fs : List Field} {a b : Value} {r s : Bool} {w : World}
theorem eqfs_cons (hn : (f.name == "_") = false) (ha : (part f.type xs f.offset).run P w = .ok a w) (hb : (part f.type ys f.offset).run P w = .ok b w) (he : (Op.equalIn d f.type a b).run P w = .ok r w) (hr : (Op.eqFields d xs ys fs).run P w = .ok s w) :
    (Op.eqFields d xs ys (f :: fs)).run P w = .ok (r && s) w := by
  have hn' : f.name ≠ "_" := by simpa using hn
  rw [Op.eqFields]
  simp only [if_pos hn', Sem.run_bind, ha, hb, he, Result.andThen_ok]
  cases r
  · simp
  · simpa using hr
theorem eqfs_nil : (Op.eqFields d xs ys []).run P w = .ok true w := by simp [Op.eqFields]
theorem eqAt_of {t : TypeId} {fs : Array Field} {us vs : List Value} (hu : P.underlying t = some (.struct fs)) (hp : P.stoodInHeld t = false) (hg : P.eqGuardType P.depth t = false)
    (h : ∀ w, (Op.eqFields 9999 us.toArray vs.toArray fs.toList).run P w = .ok r w) : EqAt P t us vs r := by
  refine ⟨hg, fun w => ?_⟩
  have hf : P.fieldsOf t = fs := by simp [Program.fieldsOf, hu]
  rw [run_equalIn_struct (P := P) w 9999 t us.toArray vs.toArray (by rw [hf]; exact hu) hp, hf]
  exact h w
end
end Go.Rd

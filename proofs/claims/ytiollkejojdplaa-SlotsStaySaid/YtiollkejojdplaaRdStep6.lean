/- RD, part 19c: steps over slices that know their capacity, into rows of the caller. -/
import Derived.Test.YtiollkejojdplaaRdStep5
namespace Go.Rd
open Go.RowKit Go.Proofs

def boundF (tm : List (Nat × TV)) : Option Operand → Int → Option Int
  | none, d => some d
  | some x, _ => match evF tm x with
    | some (.a (.s (.pv (.lit (.int _ k))))) => some k
    | _ => none

def argsN (tm : List (Nat × TV)) : List Operand → Option (List AV)
  | [] => some []
  | x :: r => match evF tm x with
    | some (.a v) => match argsN tm r with
      | some vs => some (v :: vs)
      | none => none
    | _ => none

section
variable {P : Program} {T : TypeId → Option TI} {L n : Nat} {tm tm' : List (Nat × TV)} {S : Store} {own own' : List (Nat × AObj)} {ops rest : List Oper} {Q : ASt → Prop}
variable {d : Tmp} {ty : TypeId} {pos : String} {af : Array Edge} {g : Option (Nat × Bool)}

theorem boundF_ok {lo : Option Operand} {dv k : Int} {K : Int → Prop} (h : boundF tm lo dv = some k) (hk : K k) : bound (lo.map (St L n tm S own).ev) dv K := by
  cases lo with
  | none => simp only [boundF, Option.some.injEq] at h; subst h; exact hk
  | some x =>
    simp only [boundF] at h
    split at h
    · rename_i kk hx
      simp only [Option.some.injEq] at h; subst h
      show bound (some ((St L n tm S own).ev x)) dv K
      rw [evF_ok hx]
      exact hk
    · cases h

theorem st_cap {t : TypeId} {x : Operand} {l b off len cap : Nat} {ei : TypeId × TI} (hT : TOk P T) (hx : evF tm x = some (.a (.s (.slc l b off len cap)))) (ht : sliceT T t = some ei) (hd : Nat.blt d n = true)
    (hk : (cap : Int) ≤ 9223372036854775807 → aops P T ops rest Q (St L n ((d, int cap) :: tm) S own)) :
    aop1 P T ops rest Q ⟨some d, .call ⟨.builtin .cap, #[x], #[t]⟩, ty, pos, af, g⟩ (St L n tm S own) := by
  simp only [aop1, x1]
  show qCap P t ((St L n tm S own).ev x) (fun v => (St L n tm S own).put (some d) v (aops P T ops rest Q))
  rw [evF_ok hx]
  exact ⟨sliceT_und hT ht, fun hm => put_some hd (hk (by have : maxLen = 9223372036854775807 := rfl; omega))⟩
theorem st_lenslc {t : TypeId} {x : Operand} {l b off len cap : Nat} {ei : TypeId × TI} (hT : TOk P T) (hx : evF tm x = some (.a (.s (.slc l b off len cap)))) (ht : sliceT T t = some ei) (hd : Nat.blt d n = true)
    (hk : (len : Int) ≤ 9223372036854775807 → aops P T ops rest Q (St L n ((d, int len) :: tm) S own)) :
    aop1 P T ops rest Q ⟨some d, .call ⟨.builtin .len, #[x], #[t]⟩, ty, pos, af, g⟩ (St L n tm S own) := by
  simp only [aop1, x1]
  show qLen P t ((St L n tm S own).ev x) (fun v => (St L n tm S own).put (some d) v (aops P T ops rest Q))
  rw [evF_ok hx]
  exact ⟨sliceT_und hT ht, fun hm => put_some hd (hk (by have : maxLen = 9223372036854775807 := rfl; omega))⟩

/-- Slicing. -/
theorem st_slc {t e e' : TypeId} {ei : TI} {x : Operand} {lo hi : Option Operand} {l0 b off len cap : Nat} {l h : Int} {es : List (List PV)} (hx : evF tm x = some (.a (.s (.slc l0 b off len cap)))) (ht : sliceT T t = some (e, ei))
    (hl : boundF tm lo 0 = some l) (hh : boundF tm hi len = some h) (ho : mkO S L own l0 b = some (.row e' ei.size es)) (hd : Nat.blt d n = true) (hb : 0 ≤ l ∧ l ≤ h ∧ h ≤ cap)
    (hk : l.toNat < cap → aops P T ops rest Q (St L n ((d, .a (.s (.slc l0 b (off + l.toNat) (h.toNat - l.toNat) (cap - l.toNat)))) :: tm) S own))
    (hk2 : l.toNat = cap → aops P T ops rest Q (St L n ((d, row ei.size []) :: tm) S own)) :
    aop1 P T ops rest Q ⟨some d, .slice t x lo hi none, ty, pos, af, g⟩ (St L n tm S own) := by
  simp only [aop1, x1]
  refine .inl ⟨rfl, ?_⟩
  obtain ⟨ti, q1, q2, q3⟩ := sliceT_ok ht
  rw [evF_ok hx]
  refine ⟨ti, q1, ?_⟩
  rw [q2]
  refine boundF_ok hl (boundF_ok hh ⟨ei, q3, ⟨e', es, ho⟩, hb.1, hb.2.1, hb.2.2, fun h1 => put_some hd (hk h1), fun h1 => put_some hd (hk2 h1)⟩)
/-- .. with its numbers named. -/
theorem st_slcE {t e e' : TypeId} {ei : TI} {x : Operand} {lo hi : Option Operand} {l0 b off len cap : Nat} {l h : Int} {es : List (List PV)} (off' len' cap' : Nat) (hx : evF tm x = some (.a (.s (.slc l0 b off len cap)))) (ht : sliceT T t = some (e, ei))
    (hl : boundF tm lo 0 = some l) (hh : boundF tm hi len = some h) (ho : mkO S L own l0 b = some (.row e' ei.size es)) (hd : Nat.blt d n = true) (hb : 0 ≤ l ∧ l ≤ h ∧ h ≤ cap) (e1 : off + l.toNat = off' ∧ h.toNat - l.toNat = len' ∧ cap - l.toNat = cap')
    (hk : l < cap → aops P T ops rest Q (St L n ((d, .a (.s (.slc l0 b off' len' cap'))) :: tm) S own))
    (hk2 : l = cap → aops P T ops rest Q (St L n ((d, row ei.size []) :: tm) S own)) :
    aop1 P T ops rest Q ⟨some d, .slice t x lo hi none, ty, pos, af, g⟩ (St L n tm S own) := by
  obtain ⟨rfl, rfl, rfl⟩ := e1
  exact st_slc hx ht hl hh ho hd hb (fun h1 => hk (by omega)) (fun h1 => hk2 (by omega))
theorem st_slice3 {t e : TypeId} {ei : TI} {x lo hi mx : Operand} {l0 b off len cap : Nat} {k1 k2 k3 : IntKind} {l h m : Int} (hx : evF tm x = some (.a (.s (.slc l0 b off len cap)))) (ht : sliceT T t = some (e, ei))
    (hl : evF tm lo = some (lit (.int k1 l))) (hh : evF tm hi = some (lit (.int k2 h))) (hm : evF tm mx = some (lit (.int k3 m))) (hd : Nat.blt d n = true) (hb : 0 ≤ l ∧ l ≤ h ∧ h ≤ m ∧ m ≤ cap)
    (hk : aops P T ops rest Q (St L n ((d, .undef) :: tm) S own)) : aop1 P T ops rest Q ⟨some d, .slice t x (some lo) (some hi) (some mx), ty, pos, af, g⟩ (St L n tm S own) := by
  simp only [aop1, x1]
  refine .inr ⟨lo, hi, mx, rfl, rfl, rfl, ?_⟩
  obtain ⟨ti, q1, q2, q3⟩ := sliceT_ok ht
  refine ⟨ti, e, ei, q1, q2, q3, ?_⟩
  rw [evF_ok hx, evF_ok hl, evF_ok hh, evF_ok hm]
  exact ⟨hb.1, hb.2.1, hb.2.2.1, hb.2.2.2, put_some hd hk⟩

/-- What is read by a copy: 'm' elements there are, 'news' are the first of them. -/
def SrcR (O : Store) (v : TV) (e : TypeId) (sz len m : Nat) (news : List (List PV)) : Prop := ∀ F : Nat → List (List PV) → Prop, F m news → srcOf O v e sz len F
theorem SrcR.row {O : Store} {e : TypeId} {sz len : Nat} {es : List (List PV)} : SrcR O (row sz es) e sz len es.length (es.take len) := fun _ hF => ⟨rfl, hF⟩
theorem SrcR.slc {O : Store} {e : TypeId} {sz len l b off m cap : Nat} {es : List (List PV)} (ho : O l b = some (.row e sz es)) (hle : off + min len m ≤ es.length) :
    SrcR O (.a (.s (.slc l b off m cap))) e sz len m ((es.drop off).take (min len m)) := fun _ hF => ⟨es, ho, hle, hF⟩
theorem SrcR.sl {O : Store} {e : TypeId} {sz len l b off m : Nat} {es : List (List PV)} (ho : O l b = some (.row e sz es)) :
    SrcR O (.a (.s (.sl l b off m))) e sz len m ((es.drop off).take (min len m)) := fun _ hF => ⟨es, ho, hF⟩

/-- copy, into a row of a caller. -/
theorem st_copyL {dst : Option Tmp} {t t2 e : TypeId} {ei : TI} {x y : Operand} {l0 b off len cap m : Nat} {es news es2 : List (List PV)} {vy : TV} (hx : evF tm x = some (.a (.s (.slc l0 b off len cap)))) (ht : sliceT T t = some (e, ei)) (hz : Nat.blt 0 ei.size = true)
    (hl : l0 < L) (ho : S l0 b = some (.row e ei.size es)) (hy : evF tm y = some vy) (hs : SrcR (mkO S L own) vy e ei.size len m news) (hoff : off ≤ es.length) (hm : off + news.length ≤ maxLen) (he : over es off news = es2)
    (hk : (St L n tm (upd S l0 b (some (.row e ei.size es2))) own).put dst (int ((min m len : Nat) : Int)) (aops P T ops rest Q)) :
    aop1 P T ops rest Q ⟨dst, .call ⟨.builtin .copy, #[x, y], #[t, t2]⟩, ty, pos, af, g⟩ (St L n tm S own) := by
  simp only [aop1, x1]
  show eCopy T (St L n tm S own) t x y (fun v st' => st'.put dst v (aops P T ops rest Q))
  obtain ⟨ti, q1, q2, q3⟩ := sliceT_ok ht
  refine ⟨ti, e, ei, q1, q2, q3, Nat.le_of_ble_eq_true hz, ?_⟩
  rw [evF_ok hx, evF_ok hy]
  refine ⟨es, (mkO_low _ _ _ hl).trans ho, hs _ ⟨hoff, hm, ?_⟩⟩
  rw [he]
  have e1 : ({ (St L n tm S own) with O := upd (St L n tm S own).O l0 b (some (.row e ei.size es2)) } : ASt) = St L n tm (upd S l0 b (some (.row e ei.size es2))) own := by
    show (⟨L, n, tm, upd (mkO S L own) l0 b _⟩ : ASt) = _
    rw [mkO_updlow _ _ _ _ hl]
    rfl
  rw [e1]
  exact hk
/-- clear, of a row of a caller. -/
theorem st_clearL {t e : TypeId} {ei : TI} {x : Operand} {l0 b off len cap : Nat} {es es2 : List (List PV)} (hx : evF tm x = some (.a (.s (.slc l0 b off len cap)))) (ht : sliceT T t = some (e, ei)) (hz : Nat.blt 0 ei.size = true)
    (hl : l0 < L) (ho : S l0 b = some (.row e ei.size es)) (hoff : off ≤ es.length ∧ off + len ≤ maxLen ∧ 0 < len) (he : over es off (List.replicate len (ei.zero.map .lit)) = es2)
    (hk : aops P T ops rest Q (St L n tm (upd S l0 b (some (.row e ei.size es2))) own)) :
    aop1 P T ops rest Q ⟨none, .call ⟨.builtin .clear, #[x], #[t]⟩, ty, pos, af, g⟩ (St L n tm S own) := by
  simp only [aop1, x1]
  show eClear T (St L n tm S own) t x (fun v st' => st'.put none v (aops P T ops rest Q))
  obtain ⟨ti, q1, q2, q3⟩ := sliceT_ok ht
  refine ⟨ti, e, ei, q1, q2, q3, Nat.le_of_ble_eq_true hz, ?_⟩
  rw [evF_ok hx]
  refine ⟨es, (mkO_low _ _ _ hl).trans ho, hoff.1, hoff.2.1, hoff.2.2, ?_⟩
  rw [he]
  show ASt.put ⟨L, n, tm, upd (mkO S L own) l0 b _⟩ none _ _
  rw [mkO_updlow _ _ _ _ hl]
  exact hk

/-- All elements of what is appended. -/
def SrcA (O : Store) (v : TV) (e : TypeId) (sz : Nat) (news : List (List PV)) : Prop := ∀ F : List (List PV) → Prop, F news → srcAll O v e sz F
theorem SrcA.row {O : Store} {e : TypeId} {sz : Nat} {es : List (List PV)} : SrcA O (row sz es) e sz es := fun _ hF => ⟨rfl, hF⟩
theorem SrcA.slc {O : Store} {e : TypeId} {sz l b off m cap : Nat} {es : List (List PV)} (ho : O l b = some (.row e sz es)) (hle : off + m ≤ es.length) :
    SrcA O (.a (.s (.slc l b off m cap))) e sz ((es.drop off).take m) := fun _ hF => ⟨es, ho, hle, hF⟩
theorem SrcA.sl {O : Store} {e : TypeId} {sz l b off m : Nat} {es : List (List PV)} (ho : O l b = some (.row e sz es)) :
    SrcA O (.a (.s (.sl l b off m))) e sz ((es.drop off).take m) := fun _ hF => ⟨es, ho, hF⟩
/-- append to a slice over a row of a caller. -/
theorem st_appendL {t e : TypeId} {ei : TI} {s x : Operand} {l0 b len cap : Nat} {es news es2 es3 : List (List PV)} {vx : TV} (hs : evF tm s = some (.a (.s (.slc l0 b 0 len cap)))) (ht : sliceT T t = some (e, ei)) (hz : Nat.blt 0 ei.size = true)
    (hl : l0 < L) (ho : S l0 b = some (.row e ei.size es)) (hdd : alook own d = none) (hx : evF tm x = some vx) (hsrc : SrcA (mkO S L own) vx e ei.size news) (hle : len ≤ es.length) (hm : len + news.length ≤ maxLen) (hd : Nat.blt d n = true)
    (he : over es len news = es2) (he3 : es.take len ++ news = es3) (hby : cap < len + news.length → (len + news.length) * ei.bytes ≤ 140737488355328)
    (hk : len + news.length ≤ cap → aops P T ops rest Q (St L n ((d, .a (.s (.slc l0 b 0 (len + news.length) cap))) :: tm) (upd S l0 b (some (.row e ei.size es2))) own))
    (hk2 : cap < len + news.length → aops P T ops rest Q (St L n ((d, .a (.s (.sl L d 0 es3.length))) :: tm) S ((d, .row e ei.size es3) :: own))) :
    aop1 P T ops rest Q ⟨some d, .call ⟨.builtin .append, #[s, x], #[t, t]⟩, ty, pos, af, g⟩ (St L n tm S own) := by
  simp only [aop1, x1]
  refine .inl ⟨rfl, .inr ?_⟩
  show eAppendS T (St L n tm S own) d t s x _
  obtain ⟨ti, q1, q2, q3⟩ := sliceT_ok ht
  refine ⟨ti, e, ei, q1, q2, q3, Nat.le_of_ble_eq_true hz, ?_⟩
  rw [evF_ok hx]
  refine hsrc _ ?_
  rw [evF_ok hs]
  refine ⟨es, (mkO_low _ _ _ hl).trans ho, hle, hm, fun h1 => .inl ?_, fun h1 => ⟨hby h1, ?_⟩⟩
  · rw [he]
    show ASt.put ⟨L, n, tm, upd (mkO S L own) l0 b _⟩ (some d) _ _
    rw [mkO_updlow _ _ _ _ hl]
    exact put_some hd (hk h1)
  · rw [drop_St hdd, he3]
    refine .inl (.inl ?_)
    show ASt.put ⟨L, n, tm, upd (mkO S L own) L d _⟩ (some d) _ _
    rw [mkO_upd]
    exact put_some hd (hk2 h1)
/-- .. where there is room, with the numbers named. -/
theorem st_appendIn {t e : TypeId} {ei : TI} {s x : Operand} {l0 b len cap : Nat} {es news : List (List PV)} {vx : TV} (len' : Nat) (es2 : List (List PV)) (hs : evF tm s = some (.a (.s (.slc l0 b 0 len cap)))) (ht : sliceT T t = some (e, ei)) (hz : Nat.blt 0 ei.size = true)
    (hl : l0 < L) (ho : S l0 b = some (.row e ei.size es)) (hdd : alook own d = none) (hx : evF tm x = some vx) (hd : Nat.blt d n = true) (hsrc : SrcA (mkO S L own) vx e ei.size news) (hle : len ≤ es.length) (hn : len + news.length = len') (hm : len' ≤ maxLen) (hroom : len' ≤ cap)
    (he : over es len news = es2) (hk : aops P T ops rest Q (St L n ((d, .a (.s (.slc l0 b 0 len' cap))) :: tm) (upd S l0 b (some (.row e ei.size es2))) own)) :
    aop1 P T ops rest Q ⟨some d, .call ⟨.builtin .append, #[s, x], #[t, t]⟩, ty, pos, af, g⟩ (St L n tm S own) := by
  subst hn
  exact st_appendL hs ht hz hl ho hdd hx hsrc hle hm hd he rfl (fun h => absurd h (by omega)) (fun _ => hk) (fun h => absurd h (by omega))

/-! ### a call that is handed rows of the call's own as they are -/
theorem argsN_ok : ∀ (xs : List Operand) {vs : List AV}, argsN tm xs = some vs → argsOf (xs.map (St L n tm S own).ev) = some vs
  | [], vs, h => by simp only [argsN, Option.some.injEq] at h; subst h; rfl
  | x :: r, vs, h => by
    unfold argsN at h
    split at h
    · rename_i v hv
      split at h
      · rename_i vs' hr
        simp only [Option.some.injEq] at h
        subst h
        rw [List.map_cons, evF_ok hv]
        simp only [argsOf, argsN_ok r hr, Option.map_some]
      · cases h
    · cases h
theorem st_callN {fop : Operand} {xs : List Operand} {ts : Array TypeId} {f : FuncId} {avs : List AV} {R : RV → Store → Prop} (ho : alook own d = none) (hf : evF tm fop = some (.a (.s (.clo f [])))) (hx : argsN tm xs = some avs)
    (hd : Nat.blt d n = true) (hA : AC P (L + 1) f avs (mkO S L own) R)
    (hk : ∀ r S', R r S' → ∃ tv own', r = .val tv ∧ S' = mkO S L own' ∧ aops P T ops rest Q (St L n ((d, tv) :: tm) S own')) :
    aop1 P T ops rest Q ⟨some d, .call ⟨.value fop, xs.toArray, ts⟩, ty, pos, af, g⟩ (St L n tm S own) := by
  simp only [aop1, x1, Option.getD_some]
  refine .inl (.inr ?_)
  unfold acallAt
  rw [drop_St ho, evF_ok hf]
  refine ⟨avs, R, argsN_ok xs hx, by rw [List.map_nil, List.append_nil]; exact hA, fun r S' hr => ?_⟩
  obtain ⟨tv, own', rfl, rfl, h⟩ := hk r S' hr
  exact .inl ⟨Nat.le_of_ble_eq_true hd, h⟩
end
end Go.Rd

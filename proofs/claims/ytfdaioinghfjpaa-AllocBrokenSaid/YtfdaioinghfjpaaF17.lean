/- Contracts: Inc, Dec as functions; what is fixed. -/
import Derived.Test.YtfdaioinghfjpaaF16
import Derived.Test.YtfdaioinghfjpaaF12
namespace Go.Proofs.Ytfdaioinghfjpaa
open Go.Rd Go.RowKit
set_option maxRecDepth 20000

def turnL (at' by' : Int) : List U → List U
  | [] => []
  | u :: r => if u.pos = at' then (if u.count + by' = 0 ∧ u.old = false then r else { u with count := u.count + by' } :: r) else u :: turnL at' by' r
def turnO (o : Option (List U)) (at' by' : Int) : Option (List U) :=
  if may o = true ∧ countOf at' (o.getD []) ≠ 0 ∧ countOf at' (o.getD []) + by' ≤ 1000000 then some (turnL at' by' (o.getD [])) else none
def turnV : Option (List U) → TV
  | none => noTurn
  | some l => .tup [uA (some l), .s (.pv (.lit (.bool true)))]

theorem countOf_at : ∀ (l : List U) (j : Nat) (u : U), l[j]? = some u → (∀ (i : Nat) (x : U), i < j → l[i]? = some x → x.pos ≠ u.pos) → countOf u.pos l = u.count
  | [], j, u, h, _ => by simp at h
  | v :: r, 0, u, h, _ => by simp at h; subst h; simp [countOf]
  | v :: r, j + 1, u, h, hf => by
    rw [countOf, if_neg (hf 0 v (by omega) rfl)]
    exact countOf_at r j u (by simpa using h) fun i x hi hx => hf (i + 1) x (by omega) (by simpa using hx)
theorem turn1_L (by' : Int) : ∀ (l : List U) (j : Nat) (u : U), l[j]? = some u → (∀ (i : Nat) (x : U), i < j → l[i]? = some x → x.pos ≠ u.pos) → turn1 l j u by' = turnL u.pos by' l
  | [], j, u, h, _ => by simp at h
  | v :: r, 0, u, h, _ => by
    simp at h
    subst h
    unfold turn1 turnL
    rw [if_pos rfl]
    split <;> rfl
  | v :: r, j + 1, u, h, hf => by
    rw [turnL, if_neg (hf 0 v (by omega) rfl), ← turn1_L by' r j u (by simpa using h) fun i x hi hx => hf (i + 1) x (by omega) (by simpa using hx)]
    unfold turn1
    split <;> rfl
theorem turn_det {l : List U} {at' by' : Int} {v : TV} (h : Turn l at' by' v) : v = turnV (turnO (some l) at' by') := by
  cases h with
  | no h =>
    rw [turnO, if_neg (by
      rintro ⟨h1, h2, h3⟩
      rcases h with h | h | h
      · rw [h] at h1; cases h1
      · exact h2 h
      · have h3' : countOf at' l + by' ≤ 1000000 := h3
        omega)]
    rfl
  | yes j u hm hu hp hf hc hb =>
    subst hp
    have h1 := countOf_at l j u hu hf
    rw [turnO, if_pos ⟨hm, by rw [show (some l).getD [] = l from rfl, h1]; exact hc, by rw [show (some l).getD [] = l from rfl, h1]; exact hb⟩, turn1_L by' l j u hu hf]
    rfl
theorem incO_AC (o : Option (List U)) (at' : Int) : ACv Try.prog 21 [uA o, .s (.pv (.lit (.int .i64 at')))] fun v => v = turnV (turnO o at' 1) := by
  intro L S hL
  cases o with
  | none => exact (inc_nil at' L S hL).mono fun r S' ⟨h1, v, h2, h3⟩ => ⟨h1, v, h2, h3⟩
  | some l => exact (inc_AC l at' L S hL).mono fun r S' ⟨h1, v, h2, h3⟩ => ⟨h1, v, h2, turn_det h3⟩
theorem decO_AC (o : Option (List U)) (at' : Int) : ACv Try.prog 23 [uA o, .s (.pv (.lit (.int .i64 at')))] fun v => v = turnV (turnO o at' (-1)) := by
  intro L S hL
  cases o with
  | none => exact (dec_nil at' L S hL).mono fun r S' ⟨h1, v, h2, h3⟩ => ⟨h1, v, h2, h3⟩
  | some l => exact (dec_AC l at' L S hL).mono fun r S' ⟨h1, v, h2, h3⟩ => ⟨h1, v, h2, turn_det h3⟩

theorem fixed_AC : ACv Try.prog 18 [] fun v => v = Rd.bool true := by
  intro L S hL
  refine fn_St (n := 91) (rs := [.tmp 0]) hands_val RdT.ok RdT.mixed Try.func18 rfl (by kernel_rfl) rfl rfl rfl (by omega) ?_
  intro hS
  have h1 : take none 2 = some ([⟨0, 2, 1, false⟩], 0) := by decide
  have h2 : turnO (some [⟨0, 2, 1, false⟩]) 0 (-1) = some [] := by decide
  have h3 : commit (some [⟨0, 2, 1, false⟩]) = some [⟨0, 2, 1, true⟩] := by decide
  have h4 : turnO (some [⟨0, 2, 1, true⟩]) 0 (-1) = some [⟨0, 2, 0, true⟩] := by decide
  have h5 : turnO (some [⟨0, 2, 1, false⟩]) 0 1 = some [⟨0, 2, 2, false⟩] := by decide
  have h6 : commit (some [⟨0, 2, 0, true⟩]) = none := by decide
  obtain ⟨bs7, h7, hl7, h71⟩ : ∃ bs, used (some [⟨0, 2, 1, false⟩]) = some bs ∧ bs.length = 16 ∧ bs[1]? = some true := ⟨[true, true, false, false, false, false, false, false, false, false, false, false, false, false, false, false], by decide, rfl, rfl⟩
  show awp _ _ _ _ _ (St L 91 [] S [])
  repeat' (first
    | (with_reducible refine want_none ?_)
    | (with_reducible refine c_seq ?_)
    | (with_reducible refine c_region ?_)
    | ((with_reducible refine c_regionD ?_ ?_ ?_ ?_); (kernel_rfl); (exact rfl); (exact rfl))
    | (with_reducible refine c_block ?_)
    | (with_reducible refine aops_nil ?_)
    | (with_reducible refine k_normal ?_)
    | (with_reducible refine c_skip ?_)
    | (with_reducible refine c_exit ?_)
    | (with_reducible refine c_ret ?_)
    | (with_reducible refine k_ret ?_)
    | (with_reducible refine k_exit ?_)
    | (with_reducible refine kl_ret ?_)
    | (with_reducible refine kl_exit ?_)
    | (with_reducible refine kr_ret ?_)
    | (with_reducible refine kr_exit ?_)
    | (with_reducible refine kb_normal ?_)
    | (with_reducible refine kb_ret ?_)
    | (with_reducible refine kb_hit ?_)
    | ((with_reducible refine kb_miss ?_ ?_); exact rfl)
    | ((with_reducible apply want_run); exact rfl; exact rfl)
    | ((with_reducible apply want_skip); exact rfl; exact rfl; exact rfl)
    | ((with_reducible apply want_out); exact rfl; exact rfl; exact rfl)
    | ((with_reducible apply want_forkF); exact rfl; exact rfl; exact rfl; (first | exact Bp.not Bp.dec | exact Bp.dec | exact Bp.not Bp.bool | exact Bp.bool); all_goals intro hc)
    | ((with_reducible apply want_forkT); exact rfl; exact rfl; exact rfl; (first | exact Bp.not Bp.dec | exact Bp.dec | exact Bp.not Bp.bool | exact Bp.bool); all_goals intro hc)
    | ((with_reducible apply st_callv); exact rfl; exact rfl; exact rfl; exact rfl; exact take_AC none 2; (rintro v rfl); rw [h1]) | ((with_reducible apply st_callv); exact rfl; exact rfl; exact rfl; exact rfl; exact decO_AC (some [⟨0, 2, 1, false⟩]) 0; (rintro v rfl); rw [h2]) | ((with_reducible apply st_callv); exact rfl; exact rfl; exact rfl; exact rfl; exact decO_AC (some [⟨0, 2, 1, true⟩]) 0; (rintro v rfl); rw [h4]) | ((with_reducible apply st_callv); exact rfl; exact rfl; exact rfl; exact rfl; exact commit_AC (some [⟨0, 2, 1, false⟩]); (rintro v rfl); rw [h3]) | ((with_reducible apply st_callv); exact rfl; exact rfl; exact rfl; exact rfl; exact commit_AC (some [⟨0, 2, 0, true⟩]); (rintro v rfl); rw [h6]) | ((with_reducible apply st_callv); exact rfl; exact rfl; exact rfl; exact rfl; exact incO_AC (some [⟨0, 2, 1, false⟩]) 0; (rintro v rfl); rw [h5]) | ((with_reducible apply st_callv); exact rfl; exact rfl; exact rfl; exact rfl; exact count_AC (some [⟨0, 2, 2, false⟩]) 0; (rintro v rfl)) | ((with_reducible apply st_callv); exact rfl; exact rfl; exact rfl; exact rfl; exact may_AC (some [⟨0, 2, 1, false⟩]); (rintro v rfl)) | ((with_reducible apply st_callv); exact rfl; exact rfl; exact rfl; exact rfl; exact used_AC (some [⟨0, 2, 1, false⟩]); (rintro v rfl); rw [h7]) | ((with_reducible apply st_callv); exact rfl; exact rfl; exact rfl; exact rfl; exact same_AC (some [⟨0, 2, 1, false⟩]) (some [⟨0, 2, 1, false⟩]); (rintro v rfl)) | ((with_reducible apply st_callv); exact rfl; exact rfl; exact rfl; exact rfl; exact same_AC (some [⟨0, 2, 0, true⟩]) (some [⟨0, 2, 0, true⟩]); (rintro v rfl)) | ((with_reducible apply st_buildsliceP); exact rfl; exact rfl; exact rfl; exact rfl; exact rfl; exact rfl; exact rfl; exact rfl)
    | ((with_reducible apply st_alloc); exact rfl; exact rfl; exact rfl; exact rfl)
    | ((with_reducible apply st_box); exact rfl; exact rfl; exact rfl; exact rfl)
    | ((with_reducible apply st_loadpelK); exact rfl; exact rfl; assumption; exact rfl; exact rfl)
    | ((with_reducible apply st_loadpel); exact rfl; exact rfl; omega; exact rfl; (intro u hu; refine ⟨_, rfl, ?_⟩; try simp only [Int.toNat_natCast] at hu))
    | ((with_reducible apply st_load); exact rfl; exact rfl; exact rfl; exact rfl; exact rfl)
    | ((with_reducible apply st_store); exact rfl; exact rfl; exact rfl; exact rfl; exact rfl; exact rfl)
    | ((with_reducible apply st_idx); exact rfl; exact rfl; exact rfl; exact rfl; exact rfl; omega)
    | ((with_reducible apply st_len RdT.ok); exact rfl; exact rfl; exact rfl; intro hlen)
    | ((with_reducible apply st_lennil RdT.ok); exact rfl; exact rfl; exact rfl)
    | ((with_reducible apply st_add); exact rfl; exact rfl; exact rfl; omega)
    | ((with_reducible apply st_sub); exact rfl; exact rfl; exact rfl; omega)
    | ((with_reducible apply st_q RdT.ok); exact rfl; exact rfl)
    | ((with_reducible apply c_condT); exact rfl)
    | ((with_reducible apply c_condF); exact rfl)
    | ((with_reducible apply c_cond); exact rfl; (first | exact Bp.not Bp.dec | exact Bp.dec | exact Bp.not Bp.bool | exact Bp.bool); all_goals intro hc))
  all_goals first | (exfalso; omega) | (((with_reducible apply r_one); exact rfl; exact .tmp rfl .nil; exact .s (.pv _); exact hS; refine ⟨rfl, _, rfl, ?_⟩); rfl)
end Go.Proofs.Ytfdaioinghfjpaa

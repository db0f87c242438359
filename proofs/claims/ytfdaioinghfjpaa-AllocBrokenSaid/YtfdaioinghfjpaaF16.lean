/- Contracts: slots.Take. -/
import Derived.Test.YtfdaioinghfjpaaF15
namespace Go.Proofs.Ytfdaioinghfjpaa
open Go.Rd Go.RowKit
set_option maxRecDepth 20000

/-- Behind which slots one lies that begins somewhere. -/
def posOf (at' : Int) : List U → Nat
  | [] => 0
  | u :: r => if at' < u.pos then 0 else posOf at' r + 1
theorem posOf_le (at' : Int) : ∀ l, posOf at' l ≤ l.length
  | [] => Nat.le_refl _
  | u :: r => by
    have := posOf_le at' r
    unfold posOf
    rw [List.length_cons]
    split <;> omega
theorem idx1_pos (at' : Int) : ∀ (l : List U) (k : Nat), idx1 (fun u => decide (at' < u.pos)) k l = if posOf at' l = l.length then -1 else ((k + posOf at' l : Nat) : Int)
  | [], k => rfl
  | u :: r, k => by
    unfold idx1 posOf
    by_cases h : at' < u.pos
    · rw [if_pos (by simpa using h), if_pos h, if_neg (by simp)]
      simp
    · rw [if_neg (by simpa using h), if_neg h, idx1_pos at' r (k + 1)]
      simp only [List.length_cons, Nat.add_right_cancel_iff]
      split
      · rfl
      · congr 1
        omega

def takeU (at' n : Int) : U := ⟨at', n, 1, false⟩
/-- What slots.Take makes. -/
def take (o : Option (List U)) (n : Int) : Option (List U × Int) :=
  if may o = true ∧ n ≤ 8 ∧ 0 ≤ firstOf n (runs1 0 0 (used1 none16 (o.getD []))) then
    some (insOf (o.getD []) (posOf (firstOf n (runs1 0 0 (used1 none16 (o.getD [])))) (o.getD [])) (takeU (firstOf n (runs1 0 0 (used1 none16 (o.getD [])))) n), firstOf n (runs1 0 0 (used1 none16 (o.getD []))))
  else none
def takeV : Option (List U × Int) → TV
  | none => .tup [.s (.pv (.lit (.slice none 0 0))), .s (.pv (.lit (.int .i64 0))), .s (.pv (.lit (.bool false)))]
  | some (l, at') => .tup [uA (some l), .s (.pv (.lit (.int .i64 at'))), .s (.pv (.lit (.bool true)))]

theorem used1_length : ∀ (l : List U) (bs : List Bool), (used1 bs l).length = bs.length := by
  intro l
  induction l with
  | nil => intro bs; rfl
  | cons u r ih => intro bs; unfold used1; rw [ih, mark_length]

set_option maxHeartbeats 4000000 in
theorem take_AC (o : Option (List U)) (n : Int) : ACv Try.prog 19 [uA o, .s (.pv (.lit (.int .i64 n)))] fun v => v = takeV (take o n) := by
  intro L S hL
  refine fn_St (n := 38) (rs := [.tmp 4, .tmp 5, .tmp 6]) hands_val RdT.ok RdT.mixed Try.func19 rfl (by kernel_rfl) rfl rfl rfl (by omega) ?_
  intro hS
  cases o with
  | none =>
    show awp _ _ _ _ _ (St L 38 [(0, nilS), (1, int n)] S [])
    have hmay : may none = true := rfl
    have hused : used none = some none16 := rfl
    obtain ⟨at', hat⟩ : ∃ at', firstOf n (runs1 0 0 none16) = at' := ⟨_, rfl⟩
    have hIdx : ∀ own, alook own 7 = some (.box 3 [.pv (.lit (.int .i64 at'))]) → AC Try.prog (L + 1) 75 [uA none, .s (.clo 76 [(L, 7)])] (mkO S L own) fun r S' => S' = mkO S L own ∧ ∃ v, r = .val v ∧ v = Rd.int (-1) := by
      intro own ho
      exact indexFunc_AC (take1_AC L 7 at') none (L + 1) _ (by omega) ((mkO_own S L own 7).trans ho)
    repeat' (first
    | (with_reducible refine want_none ?_)
    | (with_reducible refine c_seq ?_)
    | (with_reducible refine c_region ?_)
    | ((with_reducible refine c_regionD ?_ ?_ ?_ ?_); (kernel_rfl); (exact rfl); (exact rfl))
    | (with_reducible refine c_block ?_)
    | (with_reducible refine aops_nil ?_)
    | (with_reducible refine k_normal ?_)
    | (with_reducible refine c_skip ?_)
    | (with_reducible refine c_exit ?_)
    | (with_reducible refine c_ret ?_)
    | (with_reducible refine k_ret ?_)
    | (with_reducible refine k_exit ?_)
    | (with_reducible refine kl_ret ?_)
    | (with_reducible refine kl_exit ?_)
    | (with_reducible refine kr_ret ?_)
    | (with_reducible refine kr_exit ?_)
    | (with_reducible refine kb_normal ?_)
    | (with_reducible refine kb_ret ?_)
    | (with_reducible refine kb_hit ?_)
    | ((with_reducible refine kb_miss ?_ ?_); exact rfl)
    | ((with_reducible apply want_run); exact rfl; exact rfl)
    | ((with_reducible apply want_skip); exact rfl; exact rfl; exact rfl)
    | ((with_reducible apply want_out); exact rfl; exact rfl; exact rfl)
    | ((with_reducible apply want_forkF); exact rfl; exact rfl; exact rfl; (first | exact Bp.not Bp.dec | exact Bp.dec | exact Bp.not Bp.bool | exact Bp.bool); all_goals intro hc)
    | ((with_reducible apply want_forkT); exact rfl; exact rfl; exact rfl; (first | exact Bp.not Bp.dec | exact Bp.dec | exact Bp.not Bp.bool | exact Bp.bool); all_goals intro hc)
    | ((with_reducible apply st_callv); exact rfl; exact rfl; exact rfl; exact rfl; exact may_AC none; (rintro v rfl); rw [hmay]) | ((with_reducible apply st_callv); exact rfl; exact rfl; exact rfl; exact rfl; exact used_AC none; (rintro v rfl); rw [hused]) | ((with_reducible apply st_callv); exact rfl; exact rfl; exact rfl; exact rfl; exact first_AC none16 n (by decide) (by decide); (rintro v rfl); rw [hat]) | ((with_reducible apply st_callc); exact rfl; exact rfl; exact rfl; exact rfl; exact hIdx _ rfl; (rintro v rfl)) | ((with_reducible apply d_done); (decide +kernel)) | ((with_reducible apply d_takeQ RdT.ok 0); (decide +kernel); exact rfl; exact rfl; exact rfl; exact rfl; (decide +kernel); (decide +kernel); exact rfl; exact rfl) | ((with_reducible apply d_takeQ RdT.ok 2); (decide +kernel); exact rfl; exact rfl; exact rfl; exact rfl; (decide +kernel); (decide +kernel); exact rfl; exact rfl) | ((with_reducible apply d_takeQ RdT.ok 4); (decide +kernel); exact rfl; exact rfl; exact rfl; exact rfl; (decide +kernel); (decide +kernel); exact rfl; exact rfl) | ((with_reducible apply d_takeQ RdT.ok 5); (decide +kernel); exact rfl; exact rfl; exact rfl; exact rfl; (decide +kernel); (decide +kernel); exact rfl; exact rfl) | ((with_reducible apply d_takeQ RdT.ok 9); (decide +kernel); exact rfl; exact rfl; exact rfl; exact rfl; (decide +kernel); (decide +kernel); exact rfl; exact rfl) | ((with_reducible apply d_takeQ RdT.ok 10); (decide +kernel); exact rfl; exact rfl; exact rfl; exact rfl; (decide +kernel); (decide +kernel); exact rfl; exact rfl) | ((with_reducible apply d_takeQ RdT.ok 11); (decide +kernel); exact rfl; exact rfl; exact rfl; exact rfl; (decide +kernel); (decide +kernel); exact rfl; exact rfl) | ((with_reducible apply d_rs [1, 3, 8]); (decide +kernel); exact rfl) | ((with_reducible apply d_rs [3, 8]); (decide +kernel); exact rfl) | ((with_reducible apply d_rs [1, 3]); (decide +kernel); exact rfl) | ((with_reducible apply d_rs [1, 6, 8]); (decide +kernel); exact rfl) | ((with_reducible apply d_rs [6, 8]); (decide +kernel); exact rfl) | ((with_reducible apply d_rs [1, 6]); (decide +kernel); exact rfl) | ((with_reducible apply d_rs [1, 8]); (decide +kernel); exact rfl) | ((with_reducible apply d_rs [7, 8]); (decide +kernel); exact rfl) | ((with_reducible apply d_rs [7]); (decide +kernel); exact rfl) | ((with_reducible apply d_rs [8]); (decide +kernel); exact rfl) | ((with_reducible apply d_rs [3]); (decide +kernel); exact rfl) | ((with_reducible apply d_rs [6]); (decide +kernel); exact rfl) | ((with_reducible apply d_rs [1]); (decide +kernel); exact rfl) | (with_reducible exact allR_nil) | ((with_reducible apply allR_cons); exact rfl) | ((with_reducible apply st_callv); exact rfl; exact rfl; exact rfl; exact rfl; exact clone_nil; (rintro v rfl)) | ((with_reducible apply st_buildslice); exact rfl; exact rfl; exact rfl; exact rfl; exact rfl; exact rfl; exact rfl; exact rfl) | ((with_reducible apply st_callNO); exact rfl; exact rfl; exact rfl; exact rfl; exact insert_nil (takeU at' n) L 35 (L + 1) _ (by omega) (by omega) (mkO_own _ _ _ _); (rintro r S' ⟨rfl, rfl⟩); (refine .inr ⟨_, _, _, rfl, rfl, ?_⟩)) | ((with_reducible refine c_regionA 12 ?_ ?_); exact rfl)
    | ((with_reducible apply st_alloc); exact rfl; exact rfl; exact rfl; exact rfl)
    | ((with_reducible apply st_box); exact rfl; exact rfl; exact rfl; exact rfl)
    | ((with_reducible apply st_loadpelK); exact rfl; exact rfl; assumption; exact rfl; exact rfl)
    | ((with_reducible apply st_loadpel); exact rfl; exact rfl; omega; exact rfl; (intro u hu; refine ⟨_, rfl, ?_⟩; try simp only [Int.toNat_natCast] at hu))
    | ((with_reducible apply st_load); exact rfl; exact rfl; exact rfl; exact rfl; exact rfl)
    | ((with_reducible apply st_store); exact rfl; exact rfl; exact rfl; exact rfl; exact rfl; exact rfl)
    | ((with_reducible apply st_idx); exact rfl; exact rfl; exact rfl; exact rfl; exact rfl; omega)
    | ((with_reducible apply st_len RdT.ok); exact rfl; exact rfl; exact rfl; intro hlen)
    | ((with_reducible apply st_lennil RdT.ok); exact rfl; exact rfl; exact rfl)
    | ((with_reducible apply st_add); exact rfl; exact rfl; exact rfl; omega)
    | ((with_reducible apply st_sub); exact rfl; exact rfl; exact rfl; omega)
    | ((with_reducible apply st_q RdT.ok); exact rfl; exact rfl)
    | ((with_reducible apply c_condT); exact rfl)
    | ((with_reducible apply c_condF); exact rfl)
    | ((with_reducible apply c_cond); exact rfl; (first | exact Bp.not Bp.dec | exact Bp.dec | exact Bp.not Bp.bool | exact Bp.bool); all_goals intro hc))
    all_goals first
      | (
         (with_reducible apply r_tup); exact rfl; exact .tmp rfl (.tmp rfl (.tmp rfl .nil)); exact rfl; exact .cons (.s (.pv _)) (.cons (.s (.pv _)) (.cons (.s (.pv _)) .nil)); exact hS
         refine ⟨rfl, _, rfl, ?_⟩
         rw [take, if_neg (by rw [show (none : Option (List U)).getD [] = [] from rfl, show used1 none16 [] = none16 from rfl, hat]; omega)]
         rfl)
      | (
         (with_reducible apply r_tup); exact rfl; exact .tmp rfl (.tmp rfl (.tmp rfl .nil)); exact rfl; exact .cons (.s (.sl rfl rfl)) (.cons (.s (.pv _)) (.cons (.s (.pv _)) .nil)); exact hS
         refine ⟨rfl, _, rfl, ?_⟩
         rw [take, show (none : Option (List U)).getD [] = [] from rfl, show used1 none16 [] = none16 from rfl, hat, if_pos ⟨hmay, by omega, by omega⟩]
         rfl)
  | some l =>
    show awp _ _ _ _ _ (St L 38 [(0, row 4 (l.map encU)), (1, int n)] S [])
    cases hmay : may (some l) with
    | false =>
      repeat' (first
    | (with_reducible refine want_none ?_)
    | (with_reducible refine c_seq ?_)
    | (with_reducible refine c_region ?_)
    | ((with_reducible refine c_regionD ?_ ?_ ?_ ?_); (kernel_rfl); (exact rfl); (exact rfl))
    | (with_reducible refine c_block ?_)
    | (with_reducible refine aops_nil ?_)
    | (with_reducible refine k_normal ?_)
    | (with_reducible refine c_skip ?_)
    | (with_reducible refine c_exit ?_)
    | (with_reducible refine c_ret ?_)
    | (with_reducible refine k_ret ?_)
    | (with_reducible refine k_exit ?_)
    | (with_reducible refine kl_ret ?_)
    | (with_reducible refine kl_exit ?_)
    | (with_reducible refine kr_ret ?_)
    | (with_reducible refine kr_exit ?_)
    | (with_reducible refine kb_normal ?_)
    | (with_reducible refine kb_ret ?_)
    | (with_reducible refine kb_hit ?_)
    | ((with_reducible refine kb_miss ?_ ?_); exact rfl)
    | ((with_reducible apply want_run); exact rfl; exact rfl)
    | ((with_reducible apply want_skip); exact rfl; exact rfl; exact rfl)
    | ((with_reducible apply want_out); exact rfl; exact rfl; exact rfl)
    | ((with_reducible apply want_forkF); exact rfl; exact rfl; exact rfl; (first | exact Bp.not Bp.dec | exact Bp.dec | exact Bp.not Bp.bool | exact Bp.bool); all_goals intro hc)
    | ((with_reducible apply want_forkT); exact rfl; exact rfl; exact rfl; (first | exact Bp.not Bp.dec | exact Bp.dec | exact Bp.not Bp.bool | exact Bp.bool); all_goals intro hc)
    | ((with_reducible apply st_callv); exact rfl; exact rfl; exact rfl; exact rfl; exact may_AC (some l); (rintro v rfl); rw [hmay])
    | ((with_reducible apply st_alloc); exact rfl; exact rfl; exact rfl; exact rfl)
    | ((with_reducible apply st_box); exact rfl; exact rfl; exact rfl; exact rfl)
    | ((with_reducible apply st_loadpelK); exact rfl; exact rfl; assumption; exact rfl; exact rfl)
    | ((with_reducible apply st_loadpel); exact rfl; exact rfl; omega; exact rfl; (intro u hu; refine ⟨_, rfl, ?_⟩; try simp only [Int.toNat_natCast] at hu))
    | ((with_reducible apply st_load); exact rfl; exact rfl; exact rfl; exact rfl; exact rfl)
    | ((with_reducible apply st_store); exact rfl; exact rfl; exact rfl; exact rfl; exact rfl; exact rfl)
    | ((with_reducible apply st_idx); exact rfl; exact rfl; exact rfl; exact rfl; exact rfl; omega)
    | ((with_reducible apply st_len RdT.ok); exact rfl; exact rfl; exact rfl; intro hlen)
    | ((with_reducible apply st_lennil RdT.ok); exact rfl; exact rfl; exact rfl)
    | ((with_reducible apply st_add); exact rfl; exact rfl; exact rfl; omega)
    | ((with_reducible apply st_sub); exact rfl; exact rfl; exact rfl; omega)
    | ((with_reducible apply st_q RdT.ok); exact rfl; exact rfl)
    | ((with_reducible apply c_condT); exact rfl)
    | ((with_reducible apply c_condF); exact rfl)
    | ((with_reducible apply c_cond); exact rfl; (first | exact Bp.not Bp.dec | exact Bp.dec | exact Bp.not Bp.bool | exact Bp.bool); all_goals intro hc))
      all_goals
        (with_reducible apply r_tup); exact rfl; exact .tmp rfl (.tmp rfl (.tmp rfl .nil)); exact rfl; exact .cons (.s (.pv _)) (.cons (.s (.pv _)) (.cons (.s (.pv _)) .nil)); exact hS
        refine ⟨rfl, _, rfl, ?_⟩
        rw [take, if_neg (by rw [hmay]; simp)]
        rfl
    | true =>
      have hlen16 : (l.length : Int) ≤ 16 := by
        have := may1_length l 0 hmay
        omega
      have hused : used (some l) = some (used1 none16 l) := by rw [used, if_pos hmay]; rfl
      obtain ⟨at', hat⟩ : ∃ at', firstOf n (runs1 0 0 (used1 none16 l)) = at' := ⟨_, rfl⟩
      have hbl : (used1 none16 l).length < 9223372036854775807 := by rw [used1_length]; decide
      have hbn : used1 none16 l ≠ [] := fun h => by have := congrArg List.length h; rw [used1_length] at this; cases this
      have hple := posOf_le at' l
      have hIdx : ∀ own, alook own 7 = some (.box 3 [.pv (.lit (.int .i64 at'))]) → AC Try.prog (L + 1) 75 [uA (some l), .s (.clo 76 [(L, 7)])] (mkO S L own) fun r S' => S' = mkO S L own ∧ ∃ v, r = .val v ∧ v = Rd.int (idx1 (fun u => decide (at' < u.pos)) 0 l) := by
        intro own ho
        exact indexFunc_AC (take1_AC L 7 at') (some l) (L + 1) _ (by omega) ((mkO_own S L own 7).trans ho)
      by_cases hp : posOf at' l = l.length
      · have hidx : idx1 (fun u => decide (at' < u.pos)) 0 l = -1 := by rw [idx1_pos, if_pos hp]
        repeat' (first
    | (with_reducible refine want_none ?_)
    | (with_reducible refine c_seq ?_)
    | (with_reducible refine c_region ?_)
    | ((with_reducible refine c_regionD ?_ ?_ ?_ ?_); (kernel_rfl); (exact rfl); (exact rfl))
    | (with_reducible refine c_block ?_)
    | (with_reducible refine aops_nil ?_)
    | (with_reducible refine k_normal ?_)
    | (with_reducible refine c_skip ?_)
    | (with_reducible refine c_exit ?_)
    | (with_reducible refine c_ret ?_)
    | (with_reducible refine k_ret ?_)
    | (with_reducible refine k_exit ?_)
    | (with_reducible refine kl_ret ?_)
    | (with_reducible refine kl_exit ?_)
    | (with_reducible refine kr_ret ?_)
    | (with_reducible refine kr_exit ?_)
    | (with_reducible refine kb_normal ?_)
    | (with_reducible refine kb_ret ?_)
    | (with_reducible refine kb_hit ?_)
    | ((with_reducible refine kb_miss ?_ ?_); exact rfl)
    | ((with_reducible apply want_run); exact rfl; exact rfl)
    | ((with_reducible apply want_skip); exact rfl; exact rfl; exact rfl)
    | ((with_reducible apply want_out); exact rfl; exact rfl; exact rfl)
    | ((with_reducible apply want_forkF); exact rfl; exact rfl; exact rfl; (first | exact Bp.not Bp.dec | exact Bp.dec | exact Bp.not Bp.bool | exact Bp.bool); all_goals intro hc)
    | ((with_reducible apply want_forkT); exact rfl; exact rfl; exact rfl; (first | exact Bp.not Bp.dec | exact Bp.dec | exact Bp.not Bp.bool | exact Bp.bool); all_goals intro hc)
    | ((with_reducible apply st_callv); exact rfl; exact rfl; exact rfl; exact rfl; exact may_AC (some l); (rintro v rfl); rw [hmay]) | ((with_reducible apply st_callv); exact rfl; exact rfl; exact rfl; exact rfl; exact used_AC (some l); (rintro v rfl); rw [hused]) | ((with_reducible apply st_callv); exact rfl; exact rfl; exact rfl; exact rfl; exact first_AC (used1 none16 l) n hbl hbn; (rintro v rfl); rw [hat]) | ((with_reducible apply st_callc); exact rfl; exact rfl; exact rfl; exact rfl; exact hIdx _ rfl; (rintro v rfl); rw [hidx]) | ((with_reducible apply d_done); (decide +kernel)) | ((with_reducible apply d_takeQ RdT.ok 0); (decide +kernel); exact rfl; exact rfl; exact rfl; exact rfl; (decide +kernel); (decide +kernel); exact rfl; exact rfl) | ((with_reducible apply d_takeQ RdT.ok 2); (decide +kernel); exact rfl; exact rfl; exact rfl; exact rfl; (decide +kernel); (decide +kernel); exact rfl; exact rfl) | ((with_reducible apply d_takeQ RdT.ok 4); (decide +kernel); exact rfl; exact rfl; exact rfl; exact rfl; (decide +kernel); (decide +kernel); exact rfl; exact rfl) | ((with_reducible apply d_takeQ RdT.ok 5); (decide +kernel); exact rfl; exact rfl; exact rfl; exact rfl; (decide +kernel); (decide +kernel); exact rfl; exact rfl) | ((with_reducible apply d_takeQ RdT.ok 9); (decide +kernel); exact rfl; exact rfl; exact rfl; exact rfl; (decide +kernel); (decide +kernel); exact rfl; exact rfl) | ((with_reducible apply d_takeQ RdT.ok 10); (decide +kernel); exact rfl; exact rfl; exact rfl; exact rfl; (decide +kernel); (decide +kernel); exact rfl; exact rfl) | ((with_reducible apply d_takeQ RdT.ok 11); (decide +kernel); exact rfl; exact rfl; exact rfl; exact rfl; (decide +kernel); (decide +kernel); exact rfl; exact rfl) | ((with_reducible apply d_rs [1, 3, 8]); (decide +kernel); exact rfl) | ((with_reducible apply d_rs [3, 8]); (decide +kernel); exact rfl) | ((with_reducible apply d_rs [1, 3]); (decide +kernel); exact rfl) | ((with_reducible apply d_rs [1, 6, 8]); (decide +kernel); exact rfl) | ((with_reducible apply d_rs [6, 8]); (decide +kernel); exact rfl) | ((with_reducible apply d_rs [1, 6]); (decide +kernel); exact rfl) | ((with_reducible apply d_rs [1, 8]); (decide +kernel); exact rfl) | ((with_reducible apply d_rs [7, 8]); (decide +kernel); exact rfl) | ((with_reducible apply d_rs [7]); (decide +kernel); exact rfl) | ((with_reducible apply d_rs [8]); (decide +kernel); exact rfl) | ((with_reducible apply d_rs [3]); (decide +kernel); exact rfl) | ((with_reducible apply d_rs [6]); (decide +kernel); exact rfl) | ((with_reducible apply d_rs [1]); (decide +kernel); exact rfl) | (with_reducible exact allR_nil) | ((with_reducible apply allR_cons); exact rfl) | ((with_reducible apply st_callo); exact rfl; exact rfl; exact rfl; exact rfl; exact clone_row l (by omega); (rintro es rfl; rw [List.length_map])) | ((with_reducible apply st_buildslice); exact rfl; exact rfl; exact rfl; exact rfl; exact rfl; exact rfl; exact rfl; exact rfl) | ((with_reducible apply st_callNO); exact rfl; exact rfl; exact rfl; exact rfl; exact insert_AC l (takeU at' n) l.length L 30 L 35 (L + 1) _ (by omega) (by omega) (by omega) (by simp) (mkO_own _ _ _ _) (mkO_own _ _ _ _) (by omega); (rintro r S' (⟨rfl, rfl⟩ | ⟨rfl, rfl⟩)); (refine .inr ⟨_, _, _, rfl, rfl, ?_⟩); rotate_left; (refine .inl ⟨_, _, rfl, mkO_aset rfl, ?_⟩)) | ((with_reducible refine c_regionA 12 ?_ ?_); exact rfl)
    | ((with_reducible apply st_alloc); exact rfl; exact rfl; exact rfl; exact rfl)
    | ((with_reducible apply st_box); exact rfl; exact rfl; exact rfl; exact rfl)
    | ((with_reducible apply st_loadpelK); exact rfl; exact rfl; assumption; exact rfl; exact rfl)
    | ((with_reducible apply st_loadpel); exact rfl; exact rfl; omega; exact rfl; (intro u hu; refine ⟨_, rfl, ?_⟩; try simp only [Int.toNat_natCast] at hu))
    | ((with_reducible apply st_load); exact rfl; exact rfl; exact rfl; exact rfl; exact rfl)
    | ((with_reducible apply st_store); exact rfl; exact rfl; exact rfl; exact rfl; exact rfl; exact rfl)
    | ((with_reducible apply st_idx); exact rfl; exact rfl; exact rfl; exact rfl; exact rfl; omega)
    | ((with_reducible apply st_len RdT.ok); exact rfl; exact rfl; exact rfl; intro hlen)
    | ((with_reducible apply st_lennil RdT.ok); exact rfl; exact rfl; exact rfl)
    | ((with_reducible apply st_add); exact rfl; exact rfl; exact rfl; omega)
    | ((with_reducible apply st_sub); exact rfl; exact rfl; exact rfl; omega)
    | ((with_reducible apply st_q RdT.ok); exact rfl; exact rfl)
    | ((with_reducible apply c_condT); exact rfl)
    | ((with_reducible apply c_condF); exact rfl)
    | ((with_reducible apply c_cond); exact rfl; (first | exact Bp.not Bp.dec | exact Bp.dec | exact Bp.not Bp.bool | exact Bp.bool); all_goals intro hc))
        all_goals first
          | (
             (with_reducible apply r_tup); exact rfl; exact .tmp rfl (.tmp rfl (.tmp rfl .nil)); exact rfl; exact .cons (.s (.pv _)) (.cons (.s (.pv _)) (.cons (.s (.pv _)) .nil)); exact hS
             refine ⟨rfl, _, rfl, ?_⟩
             rw [take, if_neg (by rw [show (some l).getD [] = l from rfl, hat]; omega)]
             rfl)
          | (
             (with_reducible apply r_tup); exact rfl; exact .tmp rfl (.tmp rfl (.tmp rfl .nil)); exact rfl; exact .cons (.s (.sl rfl (by first | rfl | (rw [List.length_map, insOf_length _ _ _ (by omega)])))) (.cons (.s (.pv _)) (.cons (.s (.pv _)) .nil)); exact hS
             refine ⟨rfl, _, rfl, ?_⟩
             rw [take, show (some l).getD [] = l from rfl, hat, if_pos ⟨hmay, by omega, by omega⟩]
             first | rfl | (rw [hp]; rfl))
      · have hidx : idx1 (fun u => decide (at' < u.pos)) 0 l = (posOf at' l : Int) := by rw [idx1_pos, if_neg hp, Nat.zero_add]
        repeat' (first
    | (with_reducible refine want_none ?_)
    | (with_reducible refine c_seq ?_)
    | (with_reducible refine c_region ?_)
    | ((with_reducible refine c_regionD ?_ ?_ ?_ ?_); (kernel_rfl); (exact rfl); (exact rfl))
    | (with_reducible refine c_block ?_)
    | (with_reducible refine aops_nil ?_)
    | (with_reducible refine k_normal ?_)
    | (with_reducible refine c_skip ?_)
    | (with_reducible refine c_exit ?_)
    | (with_reducible refine c_ret ?_)
    | (with_reducible refine k_ret ?_)
    | (with_reducible refine k_exit ?_)
    | (with_reducible refine kl_ret ?_)
    | (with_reducible refine kl_exit ?_)
    | (with_reducible refine kr_ret ?_)
    | (with_reducible refine kr_exit ?_)
    | (with_reducible refine kb_normal ?_)
    | (with_reducible refine kb_ret ?_)
    | (with_reducible refine kb_hit ?_)
    | ((with_reducible refine kb_miss ?_ ?_); exact rfl)
    | ((with_reducible apply want_run); exact rfl; exact rfl)
    | ((with_reducible apply want_skip); exact rfl; exact rfl; exact rfl)
    | ((with_reducible apply want_out); exact rfl; exact rfl; exact rfl)
    | ((with_reducible apply want_forkF); exact rfl; exact rfl; exact rfl; (first | exact Bp.not Bp.dec | exact Bp.dec | exact Bp.not Bp.bool | exact Bp.bool); all_goals intro hc)
    | ((with_reducible apply want_forkT); exact rfl; exact rfl; exact rfl; (first | exact Bp.not Bp.dec | exact Bp.dec | exact Bp.not Bp.bool | exact Bp.bool); all_goals intro hc)
    | ((with_reducible apply st_callv); exact rfl; exact rfl; exact rfl; exact rfl; exact may_AC (some l); (rintro v rfl); rw [hmay]) | ((with_reducible apply st_callv); exact rfl; exact rfl; exact rfl; exact rfl; exact used_AC (some l); (rintro v rfl); rw [hused]) | ((with_reducible apply st_callv); exact rfl; exact rfl; exact rfl; exact rfl; exact first_AC (used1 none16 l) n hbl hbn; (rintro v rfl); rw [hat]) | ((with_reducible apply st_callc); exact rfl; exact rfl; exact rfl; exact rfl; exact hIdx _ rfl; (rintro v rfl); rw [hidx]) | ((with_reducible apply d_done); (decide +kernel)) | ((with_reducible apply d_takeQ RdT.ok 0); (decide +kernel); exact rfl; exact rfl; exact rfl; exact rfl; (decide +kernel); (decide +kernel); exact rfl; exact rfl) | ((with_reducible apply d_takeQ RdT.ok 2); (decide +kernel); exact rfl; exact rfl; exact rfl; exact rfl; (decide +kernel); (decide +kernel); exact rfl; exact rfl) | ((with_reducible apply d_takeQ RdT.ok 4); (decide +kernel); exact rfl; exact rfl; exact rfl; exact rfl; (decide +kernel); (decide +kernel); exact rfl; exact rfl) | ((with_reducible apply d_takeQ RdT.ok 5); (decide +kernel); exact rfl; exact rfl; exact rfl; exact rfl; (decide +kernel); (decide +kernel); exact rfl; exact rfl) | ((with_reducible apply d_takeQ RdT.ok 9); (decide +kernel); exact rfl; exact rfl; exact rfl; exact rfl; (decide +kernel); (decide +kernel); exact rfl; exact rfl) | ((with_reducible apply d_takeQ RdT.ok 10); (decide +kernel); exact rfl; exact rfl; exact rfl; exact rfl; (decide +kernel); (decide +kernel); exact rfl; exact rfl) | ((with_reducible apply d_takeQ RdT.ok 11); (decide +kernel); exact rfl; exact rfl; exact rfl; exact rfl; (decide +kernel); (decide +kernel); exact rfl; exact rfl) | ((with_reducible apply d_rs [1, 3, 8]); (decide +kernel); exact rfl) | ((with_reducible apply d_rs [3, 8]); (decide +kernel); exact rfl) | ((with_reducible apply d_rs [1, 3]); (decide +kernel); exact rfl) | ((with_reducible apply d_rs [1, 6, 8]); (decide +kernel); exact rfl) | ((with_reducible apply d_rs [6, 8]); (decide +kernel); exact rfl) | ((with_reducible apply d_rs [1, 6]); (decide +kernel); exact rfl) | ((with_reducible apply d_rs [1, 8]); (decide +kernel); exact rfl) | ((with_reducible apply d_rs [7, 8]); (decide +kernel); exact rfl) | ((with_reducible apply d_rs [7]); (decide +kernel); exact rfl) | ((with_reducible apply d_rs [8]); (decide +kernel); exact rfl) | ((with_reducible apply d_rs [3]); (decide +kernel); exact rfl) | ((with_reducible apply d_rs [6]); (decide +kernel); exact rfl) | ((with_reducible apply d_rs [1]); (decide +kernel); exact rfl) | (with_reducible exact allR_nil) | ((with_reducible apply allR_cons); exact rfl) | ((with_reducible apply st_callo); exact rfl; exact rfl; exact rfl; exact rfl; exact clone_row l (by omega); (rintro es rfl; rw [List.length_map])) | ((with_reducible apply st_buildslice); exact rfl; exact rfl; exact rfl; exact rfl; exact rfl; exact rfl; exact rfl; exact rfl) | ((with_reducible apply st_callNO); exact rfl; exact rfl; exact rfl; exact rfl; exact insert_AC l (takeU at' n) (posOf at' l) L 30 L 35 (L + 1) _ (by omega) (by omega) (by omega) (by simp) (mkO_own _ _ _ _) (mkO_own _ _ _ _) (by omega); (rintro r S' (⟨rfl, rfl⟩ | ⟨rfl, rfl⟩)); (refine .inr ⟨_, _, _, rfl, rfl, ?_⟩); rotate_left; (refine .inl ⟨_, _, rfl, mkO_aset rfl, ?_⟩)) | ((with_reducible refine c_regionA 12 ?_ ?_); exact rfl) | (exfalso; omega)
    | ((with_reducible apply st_alloc); exact rfl; exact rfl; exact rfl; exact rfl)
    | ((with_reducible apply st_box); exact rfl; exact rfl; exact rfl; exact rfl)
    | ((with_reducible apply st_loadpelK); exact rfl; exact rfl; assumption; exact rfl; exact rfl)
    | ((with_reducible apply st_loadpel); exact rfl; exact rfl; omega; exact rfl; (intro u hu; refine ⟨_, rfl, ?_⟩; try simp only [Int.toNat_natCast] at hu))
    | ((with_reducible apply st_load); exact rfl; exact rfl; exact rfl; exact rfl; exact rfl)
    | ((with_reducible apply st_store); exact rfl; exact rfl; exact rfl; exact rfl; exact rfl; exact rfl)
    | ((with_reducible apply st_idx); exact rfl; exact rfl; exact rfl; exact rfl; exact rfl; omega)
    | ((with_reducible apply st_len RdT.ok); exact rfl; exact rfl; exact rfl; intro hlen)
    | ((with_reducible apply st_lennil RdT.ok); exact rfl; exact rfl; exact rfl)
    | ((with_reducible apply st_add); exact rfl; exact rfl; exact rfl; omega)
    | ((with_reducible apply st_sub); exact rfl; exact rfl; exact rfl; omega)
    | ((with_reducible apply st_q RdT.ok); exact rfl; exact rfl)
    | ((with_reducible apply c_condT); exact rfl)
    | ((with_reducible apply c_condF); exact rfl)
    | ((with_reducible apply c_cond); exact rfl; (first | exact Bp.not Bp.dec | exact Bp.dec | exact Bp.not Bp.bool | exact Bp.bool); all_goals intro hc))
        all_goals first
          | (
             (with_reducible apply r_tup); exact rfl; exact .tmp rfl (.tmp rfl (.tmp rfl .nil)); exact rfl; exact .cons (.s (.pv _)) (.cons (.s (.pv _)) (.cons (.s (.pv _)) .nil)); exact hS
             refine ⟨rfl, _, rfl, ?_⟩
             rw [take, if_neg (by rw [show (some l).getD [] = l from rfl, hat]; omega)]
             rfl)
          | (
             (with_reducible apply r_tup); exact rfl; exact .tmp rfl (.tmp rfl (.tmp rfl .nil)); exact rfl; exact .cons (.s (.sl rfl (by first | rfl | (rw [List.length_map, insOf_length _ _ _ (by omega)])))) (.cons (.s (.pv _)) (.cons (.s (.pv _)) .nil)); exact hS
             refine ⟨rfl, _, rfl, ?_⟩
             rw [take, show (some l).getD [] = l from rfl, hat, if_pos ⟨hmay, by omega, by omega⟩]
             first | rfl | (rw [hp]; rfl))
end Go.Proofs.Ytfdaioinghfjpaa

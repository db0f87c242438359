/- Contracts of alloc: turn, Inc, Dec. -/
import Derived.Test.YtfdaioinghfjpaaG3
import Derived.Test.YtfdaioinghfjpaaG4
import Derived.Test.YtfdaioinghfjpaaF17
namespace Go.Proofs.Ytfdaioinghfjpaa
open Go.Rd Go.RowKit
set_option maxRecDepth 20000
set_option linter.unusedSimpArgs false
set_option linter.unusedVariables false
set_option maxHeartbeats 4000000

theorem turnV_eq (t : Option (List U)) : turnV t = .tup [uA t, .s (.pv (.lit (.bool t.isSome)))] := by
  rcases t with _ | l <;> rfl
theorem idx1_any (p : U → Bool) : ∀ (l : List U) (k : Nat), decide (0 ≤ idx1 p k l) = l.any p
  | [], k => rfl
  | u :: r, k => by
    rw [idx1, List.any_cons]
    split
    · rename_i h
      rw [h]
      simp
    · rename_i h
      rw [idx1_any p r, Bool.eq_false_iff.2 h]
      rfl
/-- Does a slot lie where one refers to? -/
def testR (x : Rf) (u : U) : Bool := decide (u.pos = x.pos) && decide (u.len = lenR x)
theorem turn1_AC' (l b : Nat) (x : Rf) (hn : x.size ≤ 1000000) : Test 119 l b (.box 53 ((encR x).map .pv)) (testR x) := by
  intro L S u hl hob
  refine fn_St (n := 16) (rs := [.tmp 3]) hands_val RdT.ok RdT.mixed Try.func119 rfl (by kernel_rfl) rfl rfl rfl (by omega) ?_
  intro hS
  show awp _ _ _ _ _ (St L 16 [(0, .a (uV u)), (1, .a (.s (.pb l b 0)))] S [])
  repeat' (first
    | (with_reducible refine want_none ?_)
    | (with_reducible refine c_seq ?_)
    | (with_reducible refine c_region ?_)
    | ((with_reducible refine c_regionD ?_ ?_ ?_ ?_); (kernel_rfl); (exact rfl); (exact rfl))
    | (with_reducible refine c_block ?_)
    | (with_reducible refine aops_nil ?_)
    | (with_reducible refine k_normal ?_)
    | (with_reducible refine c_skip ?_)
    | (with_reducible refine c_exit ?_)
    | (with_reducible refine c_ret ?_)
    | (with_reducible refine k_ret ?_)
    | (with_reducible refine k_exit ?_)
    | (with_reducible refine kl_ret ?_)
    | (with_reducible refine kl_exit ?_)
    | (with_reducible refine kr_ret ?_)
    | (with_reducible refine kr_exit ?_)
    | (with_reducible refine kb_normal ?_)
    | (with_reducible refine kb_ret ?_)
    | (with_reducible refine kb_hit ?_)
    | ((with_reducible refine kb_miss ?_ ?_); exact rfl)
    | ((with_reducible apply want_run); exact rfl; exact rfl)
    | ((with_reducible apply want_skip); exact rfl; exact rfl; exact rfl)
    | ((with_reducible apply want_out); exact rfl; exact rfl; exact rfl)
    | ((with_reducible apply want_forkF); exact rfl; exact rfl; exact rfl; (first | exact Bp.not Bp.dec | exact Bp.dec | exact Bp.not Bp.bool | exact Bp.bool); all_goals intro hc)
    | ((with_reducible apply want_forkT); exact rfl; exact rfl; exact rfl; (first | exact Bp.not Bp.dec | exact Bp.dec | exact Bp.not Bp.bool | exact Bp.bool); all_goals intro hc)
    | ((with_reducible apply st_loadlow); exact rfl; exact hl; exact hob; exact rfl; exact rfl; exact rfl) | (with_reducible refine q_nil ?_) | ((with_reducible apply q_one); exact rfl; exact rfl) | ((with_reducible apply q_callS); exact rfl; exact rfl; exact rfl) | ((with_reducible apply q_callO); exact rfl; exact rfl; exact rfl) | ((with_reducible refine c_regionQ ?_ ?_); (decide +kernel)) | ((with_reducible apply q_call); exact rfl; (with_reducible apply acq); exact rfl; exact rfl; exact rfl; exact lenR_AC x hn; exact rfl; (refine put_some rfl ?_)) | ((with_reducible apply q_callR); exact rfl; exact rfl; exact rfl; (with_reducible apply acq); exact rfl; exact rfl; exact rfl; exact lenR_AC x hn; exact rfl; (refine put_some rfl ?_))
    | ((with_reducible apply st_alloc); exact rfl; exact rfl; exact rfl; exact rfl)
    | ((with_reducible apply st_box); exact rfl; exact rfl; exact rfl; exact rfl)
    | ((with_reducible apply st_loadpelK); exact rfl; exact rfl; assumption; exact rfl; exact rfl)
    | ((with_reducible apply st_loadpel); exact rfl; exact rfl; omega; exact rfl; (intro u hu; refine ⟨_, rfl, ?_⟩; try simp only [Int.toNat_natCast] at hu))
    | ((with_reducible apply st_load); exact rfl; exact rfl; exact rfl; exact rfl; exact rfl)
    | ((with_reducible apply st_store); exact rfl; exact rfl; exact rfl; exact rfl; exact rfl; exact rfl)
    | ((with_reducible apply st_idx); exact rfl; exact rfl; exact rfl; exact rfl; exact rfl; omega)
    | ((with_reducible apply st_len RdT.ok); exact rfl; exact rfl; exact rfl; intro hlen)
    | ((with_reducible apply st_lennil RdT.ok); exact rfl; exact rfl; exact rfl)
    | ((with_reducible apply st_add); exact rfl; exact rfl; exact rfl; omega)
    | ((with_reducible apply st_sub); exact rfl; exact rfl; exact rfl; omega)
    | ((with_reducible apply st_q RdT.ok); exact rfl; exact rfl)
    | ((with_reducible apply c_condT); exact rfl)
    | ((with_reducible apply c_condF); exact rfl)
    | ((with_reducible apply c_cond); exact rfl; (first | exact Bp.not Bp.dec | exact Bp.dec | exact Bp.not Bp.bool | exact Bp.bool); all_goals intro hc))
  all_goals
    ((with_reducible apply r_one); exact rfl; exact .tmp rfl .nil; exact .s (.pv _); exact hS; refine ⟨rfl, _, rfl, ?_⟩)
    refine congrArg Rd.bool ?_
    unfold testR
    simp_all
theorem containsU_AC {f : FuncId} {l0 b0 : Nat} {ob : AObj} {p : U → Bool} (hp : Test f l0 b0 ob p) (o : Option (List U)) (L : Nat) (S : Store) (hl : l0 < L) (hob : S l0 b0 = some ob) :
    AC Try.prog L 118 [uA o, .s (.clo f [(l0, b0)])] S fun r S' => S' = S ∧ ∃ v, r = .val v ∧ v = Rd.bool ((o.getD []).any p) := by
  refine fn_St (n := 9) (rs := [.tmp 4]) hands_val RdT.ok RdT.mixed Try.func118 rfl (by kernel_rfl) rfl rfl rfl (by omega) ?_
  intro hS
  show awp _ _ _ _ _ (St L 9 [(0, .a (uA o)), (1, .a (.s (.clo f [(l0, b0)])))] S [])
  repeat' (first
    | (with_reducible refine want_none ?_)
    | (with_reducible refine c_seq ?_)
    | (with_reducible refine c_region ?_)
    | ((with_reducible refine c_regionD ?_ ?_ ?_ ?_); (kernel_rfl); (exact rfl); (exact rfl))
    | (with_reducible refine c_block ?_)
    | (with_reducible refine aops_nil ?_)
    | (with_reducible refine k_normal ?_)
    | (with_reducible refine c_skip ?_)
    | (with_reducible refine c_exit ?_)
    | (with_reducible refine c_ret ?_)
    | (with_reducible refine k_ret ?_)
    | (with_reducible refine k_exit ?_)
    | (with_reducible refine kl_ret ?_)
    | (with_reducible refine kl_exit ?_)
    | (with_reducible refine kr_ret ?_)
    | (with_reducible refine kr_exit ?_)
    | (with_reducible refine kb_normal ?_)
    | (with_reducible refine kb_ret ?_)
    | (with_reducible refine kb_hit ?_)
    | ((with_reducible refine kb_miss ?_ ?_); exact rfl)
    | ((with_reducible apply want_run); exact rfl; exact rfl)
    | ((with_reducible apply want_skip); exact rfl; exact rfl; exact rfl)
    | ((with_reducible apply want_out); exact rfl; exact rfl; exact rfl)
    | ((with_reducible apply want_forkF); exact rfl; exact rfl; exact rfl; (first | exact Bp.not Bp.dec | exact Bp.dec | exact Bp.not Bp.bool | exact Bp.bool); all_goals intro hc)
    | ((with_reducible apply want_forkT); exact rfl; exact rfl; exact rfl; (first | exact Bp.not Bp.dec | exact Bp.dec | exact Bp.not Bp.bool | exact Bp.bool); all_goals intro hc)
    | ((with_reducible apply st_callv); exact rfl; exact rfl; exact rfl; exact rfl; exact indexFunc_AC hp o (L + 1) _ (by omega) ((mkO_low _ _ _ hl).trans hob); (rintro v rfl)) | ((with_reducible apply st_callc); exact rfl; exact rfl; exact rfl; exact rfl; exact indexFunc_AC hp o (L + 1) _ (by omega) ((mkO_low _ _ _ hl).trans hob); (rintro v rfl)) | ((with_reducible apply st_callN); exact rfl; exact rfl; exact rfl; exact rfl; exact indexFunc_AC hp o (L + 1) _ (by omega) ((mkO_low _ _ _ hl).trans hob); (rintro r S' ⟨rfl, v, rfl, rfl⟩; refine ⟨_, [], rfl, rfl, ?_⟩))
    | ((with_reducible apply st_alloc); exact rfl; exact rfl; exact rfl; exact rfl)
    | ((with_reducible apply st_box); exact rfl; exact rfl; exact rfl; exact rfl)
    | ((with_reducible apply st_loadpelK); exact rfl; exact rfl; assumption; exact rfl; exact rfl)
    | ((with_reducible apply st_loadpel); exact rfl; exact rfl; omega; exact rfl; (intro u hu; refine ⟨_, rfl, ?_⟩; try simp only [Int.toNat_natCast] at hu))
    | ((with_reducible apply st_load); exact rfl; exact rfl; exact rfl; exact rfl; exact rfl)
    | ((with_reducible apply st_store); exact rfl; exact rfl; exact rfl; exact rfl; exact rfl; exact rfl)
    | ((with_reducible apply st_idx); exact rfl; exact rfl; exact rfl; exact rfl; exact rfl; omega)
    | ((with_reducible apply st_len RdT.ok); exact rfl; exact rfl; exact rfl; intro hlen)
    | ((with_reducible apply st_lennil RdT.ok); exact rfl; exact rfl; exact rfl)
    | ((with_reducible apply st_add); exact rfl; exact rfl; exact rfl; omega)
    | ((with_reducible apply st_sub); exact rfl; exact rfl; exact rfl; omega)
    | ((with_reducible apply st_q RdT.ok); exact rfl; exact rfl)
    | ((with_reducible apply c_condT); exact rfl)
    | ((with_reducible apply c_condF); exact rfl)
    | ((with_reducible apply c_cond); exact rfl; (first | exact Bp.not Bp.dec | exact Bp.dec | exact Bp.not Bp.bool | exact Bp.bool); all_goals intro hc))
  ((with_reducible apply r_one); exact rfl; exact .tmp rfl .nil; exact .s (.pv _); exact hS; refine ⟨rfl, _, rfl, ?_⟩)
  exact congrArg Rd.bool (idx1_any _ _ _)

def turnC (o : Option (List Tb)) (x : Rf) (by' : Int) : Option (List Tb) :=
  if mayC o = true ∧ mayR x = true ∧ x.chunk < (o.getD []).length then
    (match (o.getD [])[x.chunk.toNat]? with
    | some t => if (t.getD []).any (testR x) = true ∧ (turnO t x.pos by').isSome = true then some ((o.getD []).set x.chunk.toNat (turnO t x.pos by')) else none
    | none => none)
  else none
def turnCV : Option (List Tb) → TV
  | none => .tup [.s (.pv (.lit (.slice none 0 0))), .s (.pv (.lit (.bool false)))]
  | some c => .tup [cA (some c), .s (.pv (.lit (.bool true)))]
theorem turnCV_eq (t : Option (List Tb)) : turnCV t = .tup [cA t, .s (.pv (.lit (.bool t.isSome)))] := by
  rcases t with _ | l <;> rfl
theorem turnC_AC (f : FuncId) (by' : Int) (hf : ∀ (o : Tb) (at' : Int), ACv Try.prog f [uA o, .s (.pv (.lit (.int .i64 at')))] fun v => v = turnV (turnO o at' by')) (o : Option (List Tb)) (x : Rf) :
    ACv Try.prog 86 [cA o, rA x, .s (.clo f [])] fun v => v = turnCV (turnC o x by') := by
  intro L S hL
  refine fn_St (n := 54) (rs := [.tmp 6, .tmp 7]) hands_val RdT.ok RdT.mixed Try.func86 rfl (by kernel_rfl) rfl rfl rfl (by omega) ?_
  intro hS
  cases hmay : mayC o with
  | false =>
    show awp _ _ _ _ _ (St L 54 [(0, .a (cA o)), (1, .a (rA x)), (2, .a (.s (.clo f [])))] S [])
    repeat' (first
    | (with_reducible refine want_none ?_)
    | (with_reducible refine c_seq ?_)
    | (with_reducible refine c_region ?_)
    | ((with_reducible refine c_regionD ?_ ?_ ?_ ?_); (kernel_rfl); (exact rfl); (exact rfl))
    | (with_reducible refine c_block ?_)
    | (with_reducible refine aops_nil ?_)
    | (with_reducible refine k_normal ?_)
    | (with_reducible refine c_skip ?_)
    | (with_reducible refine c_exit ?_)
    | (with_reducible refine c_ret ?_)
    | (with_reducible refine k_ret ?_)
    | (with_reducible refine k_exit ?_)
    | (with_reducible refine kl_ret ?_)
    | (with_reducible refine kl_exit ?_)
    | (with_reducible refine kr_ret ?_)
    | (with_reducible refine kr_exit ?_)
    | (with_reducible refine kb_normal ?_)
    | (with_reducible refine kb_ret ?_)
    | (with_reducible refine kb_hit ?_)
    | ((with_reducible refine kb_miss ?_ ?_); exact rfl)
    | ((with_reducible apply want_run); exact rfl; exact rfl)
    | ((with_reducible apply want_skip); exact rfl; exact rfl; exact rfl)
    | ((with_reducible apply want_out); exact rfl; exact rfl; exact rfl)
    | ((with_reducible apply want_forkF); exact rfl; exact rfl; exact rfl; (first | exact Bp.not Bp.dec | exact Bp.dec | exact Bp.not Bp.bool | exact Bp.bool); all_goals intro hc)
    | ((with_reducible apply want_forkT); exact rfl; exact rfl; exact rfl; (first | exact Bp.not Bp.dec | exact Bp.dec | exact Bp.not Bp.bool | exact Bp.bool); all_goals intro hc)
    | ((with_reducible apply st_callv); exact rfl; exact rfl; exact rfl; exact rfl; exact mayC_AC o; (rintro v rfl); rw [hmay])
    | ((with_reducible apply st_alloc); exact rfl; exact rfl; exact rfl; exact rfl)
    | ((with_reducible apply st_box); exact rfl; exact rfl; exact rfl; exact rfl)
    | ((with_reducible apply st_loadpelK); exact rfl; exact rfl; assumption; exact rfl; exact rfl)
    | ((with_reducible apply st_loadpel); exact rfl; exact rfl; omega; exact rfl; (intro u hu; refine ⟨_, rfl, ?_⟩; try simp only [Int.toNat_natCast] at hu))
    | ((with_reducible apply st_load); exact rfl; exact rfl; exact rfl; exact rfl; exact rfl)
    | ((with_reducible apply st_store); exact rfl; exact rfl; exact rfl; exact rfl; exact rfl; exact rfl)
    | ((with_reducible apply st_idx); exact rfl; exact rfl; exact rfl; exact rfl; exact rfl; omega)
    | ((with_reducible apply st_len RdT.ok); exact rfl; exact rfl; exact rfl; intro hlen)
    | ((with_reducible apply st_lennil RdT.ok); exact rfl; exact rfl; exact rfl)
    | ((with_reducible apply st_add); exact rfl; exact rfl; exact rfl; omega)
    | ((with_reducible apply st_sub); exact rfl; exact rfl; exact rfl; omega)
    | ((with_reducible apply st_q RdT.ok); exact rfl; exact rfl)
    | ((with_reducible apply c_condT); exact rfl)
    | ((with_reducible apply c_condF); exact rfl)
    | ((with_reducible apply c_cond); exact rfl; (first | exact Bp.not Bp.dec | exact Bp.dec | exact Bp.not Bp.bool | exact Bp.bool); all_goals intro hc))
    (with_reducible apply r_tup); exact rfl; exact .tmp rfl (.tmp rfl .nil); exact rfl; exact .cons (.s (.pv _)) (.cons (.s (.pv _)) .nil); exact hS; refine ⟨rfl, _, rfl, ?_⟩
    rw [turnC, if_neg (by rw [hmay]; simp)]; rfl
  | true =>
    cases hmr : mayR x with
    | false =>
      show awp _ _ _ _ _ (St L 54 [(0, .a (cA o)), (1, .a (rA x)), (2, .a (.s (.clo f [])))] S [])
      repeat' (first
    | (with_reducible refine want_none ?_)
    | (with_reducible refine c_seq ?_)
    | (with_reducible refine c_region ?_)
    | ((with_reducible refine c_regionD ?_ ?_ ?_ ?_); (kernel_rfl); (exact rfl); (exact rfl))
    | (with_reducible refine c_block ?_)
    | (with_reducible refine aops_nil ?_)
    | (with_reducible refine k_normal ?_)
    | (with_reducible refine c_skip ?_)
    | (with_reducible refine c_exit ?_)
    | (with_reducible refine c_ret ?_)
    | (with_reducible refine k_ret ?_)
    | (with_reducible refine k_exit ?_)
    | (with_reducible refine kl_ret ?_)
    | (with_reducible refine kl_exit ?_)
    | (with_reducible refine kr_ret ?_)
    | (with_reducible refine kr_exit ?_)
    | (with_reducible refine kb_normal ?_)
    | (with_reducible refine kb_ret ?_)
    | (with_reducible refine kb_hit ?_)
    | ((with_reducible refine kb_miss ?_ ?_); exact rfl)
    | ((with_reducible apply want_run); exact rfl; exact rfl)
    | ((with_reducible apply want_skip); exact rfl; exact rfl; exact rfl)
    | ((with_reducible apply want_out); exact rfl; exact rfl; exact rfl)
    | ((with_reducible apply want_forkF); exact rfl; exact rfl; exact rfl; (first | exact Bp.not Bp.dec | exact Bp.dec | exact Bp.not Bp.bool | exact Bp.bool); all_goals intro hc)
    | ((with_reducible apply want_forkT); exact rfl; exact rfl; exact rfl; (first | exact Bp.not Bp.dec | exact Bp.dec | exact Bp.not Bp.bool | exact Bp.bool); all_goals intro hc)
    | ((with_reducible apply st_callv); exact rfl; exact rfl; exact rfl; exact rfl; exact mayC_AC o; (rintro v rfl); rw [hmay]) | ((with_reducible apply st_callv); exact rfl; exact rfl; exact rfl; exact rfl; exact mayR_AC x; (rintro v rfl); rw [hmr])
    | ((with_reducible apply st_alloc); exact rfl; exact rfl; exact rfl; exact rfl)
    | ((with_reducible apply st_box); exact rfl; exact rfl; exact rfl; exact rfl)
    | ((with_reducible apply st_loadpelK); exact rfl; exact rfl; assumption; exact rfl; exact rfl)
    | ((with_reducible apply st_loadpel); exact rfl; exact rfl; omega; exact rfl; (intro u hu; refine ⟨_, rfl, ?_⟩; try simp only [Int.toNat_natCast] at hu))
    | ((with_reducible apply st_load); exact rfl; exact rfl; exact rfl; exact rfl; exact rfl)
    | ((with_reducible apply st_store); exact rfl; exact rfl; exact rfl; exact rfl; exact rfl; exact rfl)
    | ((with_reducible apply st_idx); exact rfl; exact rfl; exact rfl; exact rfl; exact rfl; omega)
    | ((with_reducible apply st_len RdT.ok); exact rfl; exact rfl; exact rfl; intro hlen)
    | ((with_reducible apply st_lennil RdT.ok); exact rfl; exact rfl; exact rfl)
    | ((with_reducible apply st_add); exact rfl; exact rfl; exact rfl; omega)
    | ((with_reducible apply st_sub); exact rfl; exact rfl; exact rfl; omega)
    | ((with_reducible apply st_q RdT.ok); exact rfl; exact rfl)
    | ((with_reducible apply c_condT); exact rfl)
    | ((with_reducible apply c_condF); exact rfl)
    | ((with_reducible apply c_cond); exact rfl; (first | exact Bp.not Bp.dec | exact Bp.dec | exact Bp.not Bp.bool | exact Bp.bool); all_goals intro hc))
      (with_reducible apply r_tup); exact rfl; exact .tmp rfl (.tmp rfl .nil); exact rfl; exact .cons (.s (.pv _)) (.cons (.s (.pv _)) .nil); exact hS; refine ⟨rfl, _, rfl, ?_⟩
      rw [turnC, if_neg (by rw [hmr]; simp)]; rfl
    | true =>
      obtain ⟨hl, hls⟩ := mayC_fits hmay
      have hln := mayC_len hmay
      have hch : 0 ≤ x.chunk ∧ x.size ≤ 256 := by
        unfold mayR at hmr
        simp only [Bool.and_eq_true, decide_eq_true_eq] at hmr
        omega
      cases o with
      | none => exact absurd hln.1 (by simp)
      | some l =>
        simp only [Option.getD_some] at hl hls hln
        have hC : ∀ (u : Tb) own, alook own 4 = some (.box 53 ((encR x).map .pv)) → AC Try.prog (L + 1) 118 [uA u, .s (.clo 119 [(L, 4)])] (mkO S L own) fun r S' => S' = mkO S L own ∧ ∃ v, r = .val v ∧ v = Rd.bool ((u.getD []).any (testR x)) := by
          intro u own ho
          exact containsU_AC (turn1_AC' L 4 x (by omega)) u (L + 1) _ (by omega) ((mkO_own S L own 4).trans ho)
        show awp _ _ _ _ _ (St L 54 [(0, row 1 (l.map encC)), (1, .a (rA x)), (2, .a (.s (.clo f [])))] S [])
        repeat' (first
    | (with_reducible refine want_none ?_)
    | (with_reducible refine c_seq ?_)
    | (with_reducible refine c_region ?_)
    | ((with_reducible refine c_regionD ?_ ?_ ?_ ?_); (kernel_rfl); (exact rfl); (exact rfl))
    | (with_reducible refine c_block ?_)
    | (with_reducible refine aops_nil ?_)
    | (with_reducible refine k_normal ?_)
    | (with_reducible refine c_skip ?_)
    | (with_reducible refine c_exit ?_)
    | (with_reducible refine c_ret ?_)
    | (with_reducible refine k_ret ?_)
    | (with_reducible refine k_exit ?_)
    | (with_reducible refine kl_ret ?_)
    | (with_reducible refine kl_exit ?_)
    | (with_reducible refine kr_ret ?_)
    | (with_reducible refine kr_exit ?_)
    | (with_reducible refine kb_normal ?_)
    | (with_reducible refine kb_ret ?_)
    | (with_reducible refine kb_hit ?_)
    | ((with_reducible refine kb_miss ?_ ?_); exact rfl)
    | ((with_reducible apply want_run); exact rfl; exact rfl)
    | ((with_reducible apply want_skip); exact rfl; exact rfl; exact rfl)
    | ((with_reducible apply want_out); exact rfl; exact rfl; exact rfl)
    | ((with_reducible apply want_forkF); exact rfl; exact rfl; exact rfl; (first | exact Bp.not Bp.dec | exact Bp.dec | exact Bp.not Bp.bool | exact Bp.bool); all_goals intro hc)
    | ((with_reducible apply want_forkT); exact rfl; exact rfl; exact rfl; (first | exact Bp.not Bp.dec | exact Bp.dec | exact Bp.not Bp.bool | exact Bp.bool); all_goals intro hc)
    | ((with_reducible apply st_callv); exact rfl; exact rfl; exact rfl; exact rfl; exact mayC_AC (some l); (rintro v rfl); rw [hmay]) | ((with_reducible apply st_callv); exact rfl; exact rfl; exact rfl; exact rfl; exact mayR_AC x; (rintro v rfl); rw [hmr]) | ((with_reducible apply st_callc); exact rfl; exact rfl; exact rfl; exact rfl; exact hC u _ rfl; (rintro v rfl)) | ((with_reducible apply st_callv); exact rfl; exact rfl; exact rfl; exact rfl; exact hf u x.pos; (rintro v rfl); rw [turnV_eq]) | ((with_reducible apply st_callo); exact rfl; exact rfl; exact rfl; exact rfl; exact copied_row l hl hls; (rintro es rfl)) | ((with_reducible apply st_idxown); exact rfl; exact rfl; exact rfl; exact rfl; exact rfl; exact rfl; (rw [List.length_map]; omega)) | ((with_reducible apply st_storeprU); exact rfl; exact rfl; exact rfl; exact rfl; exact rfl; exact rfl; omega; (intro b hb; refine ⟨turnO u x.pos by', _, rfl, rfl, rfl, ?_⟩))
    | ((with_reducible apply st_alloc); exact rfl; exact rfl; exact rfl; exact rfl)
    | ((with_reducible apply st_box); exact rfl; exact rfl; exact rfl; exact rfl)
    | ((with_reducible apply st_loadpelK); exact rfl; exact rfl; assumption; exact rfl; exact rfl)
    | ((with_reducible apply st_loadpel); exact rfl; exact rfl; omega; exact rfl; (intro u hu; refine ⟨_, rfl, ?_⟩; try simp only [Int.toNat_natCast] at hu))
    | ((with_reducible apply st_load); exact rfl; exact rfl; exact rfl; exact rfl; exact rfl)
    | ((with_reducible apply st_store); exact rfl; exact rfl; exact rfl; exact rfl; exact rfl; exact rfl)
    | ((with_reducible apply st_idx); exact rfl; exact rfl; exact rfl; exact rfl; exact rfl; omega)
    | ((with_reducible apply st_len RdT.ok); exact rfl; exact rfl; exact rfl; intro hlen)
    | ((with_reducible apply st_lennil RdT.ok); exact rfl; exact rfl; exact rfl)
    | ((with_reducible apply st_add); exact rfl; exact rfl; exact rfl; omega)
    | ((with_reducible apply st_sub); exact rfl; exact rfl; exact rfl; omega)
    | ((with_reducible apply st_q RdT.ok); exact rfl; exact rfl)
    | ((with_reducible apply c_condT); exact rfl)
    | ((with_reducible apply c_condF); exact rfl)
    | ((with_reducible apply c_cond); exact rfl; (first | exact Bp.not Bp.dec | exact Bp.dec | exact Bp.not Bp.bool | exact Bp.bool); all_goals intro hc))
        · (with_reducible apply r_tup); exact rfl; exact .tmp rfl (.tmp rfl .nil); exact rfl; exact .cons (.s (.pv _)) (.cons (.s (.pv _)) .nil); exact hS; refine ⟨rfl, _, rfl, ?_⟩
          rw [turnC, if_neg (fun h => by have := h.2.2; simp only [Option.getD_some] at this; omega)]; rfl
        · (with_reducible apply r_tup); exact rfl; exact .tmp rfl (.tmp rfl .nil); exact rfl; exact .cons (.s (.pv _)) (.cons (.s (.pv _)) .nil); exact hS; refine ⟨rfl, _, rfl, ?_⟩
          rw [turnC, if_pos ⟨hmay, hmr, by simp only [Option.getD_some]; omega⟩, Option.getD_some, hu]
          show _ = turnCV (if _ then _ else _)
          rw [if_neg (fun h => hc h.1)]; rfl
        · (with_reducible apply r_tup); exact rfl; exact .tmp rfl (.tmp rfl .nil); exact rfl; exact .cons (.s (.pv _)) (.cons (.s (.pv _)) .nil); exact hS; refine ⟨rfl, _, rfl, ?_⟩
          rw [turnC, if_pos ⟨hmay, hmr, by simp only [Option.getD_some]; omega⟩, Option.getD_some, hu]
          show _ = turnCV (if _ then _ else _)
          rw [if_neg (fun h => hc h.2)]; rfl
        · (with_reducible apply r_tup); exact rfl; exact .tmp rfl (.tmp rfl .nil); exact rfl; exact .cons (.s (.sl rfl (by rw [List.length_map, List.length_map, List.length_set]))) (.cons (.s (.pv _)) .nil); exact hS; refine ⟨rfl, _, rfl, ?_⟩
          rw [turnC, if_pos ⟨hmay, hmr, by simp only [Option.getD_some]; omega⟩, Option.getD_some, hu]
          show _ = turnCV (if _ then _ else _)
          rw [if_pos ⟨Classical.not_not.1 (by assumption), Classical.not_not.1 hc⟩]; rfl
theorem incC_AC (o : Option (List Tb)) (x : Rf) : ACv Try.prog 49 [cA o, rA x] fun v => v = turnCV (turnC o x 1) := by
  intro L S hL
  refine fn_St (n := 11) (rs := [.tmp 4, .tmp 5]) hands_val RdT.ok RdT.mixed Try.func49 rfl (by kernel_rfl) rfl rfl rfl (by omega) ?_
  intro hS
  show awp _ _ _ _ _ (St L 11 [(0, .a (cA o)), (1, .a (rA x))] S [])
  repeat' (first
    | (with_reducible refine want_none ?_)
    | (with_reducible refine c_seq ?_)
    | (with_reducible refine c_region ?_)
    | ((with_reducible refine c_regionD ?_ ?_ ?_ ?_); (kernel_rfl); (exact rfl); (exact rfl))
    | (with_reducible refine c_block ?_)
    | (with_reducible refine aops_nil ?_)
    | (with_reducible refine k_normal ?_)
    | (with_reducible refine c_skip ?_)
    | (with_reducible refine c_exit ?_)
    | (with_reducible refine c_ret ?_)
    | (with_reducible refine k_ret ?_)
    | (with_reducible refine k_exit ?_)
    | (with_reducible refine kl_ret ?_)
    | (with_reducible refine kl_exit ?_)
    | (with_reducible refine kr_ret ?_)
    | (with_reducible refine kr_exit ?_)
    | (with_reducible refine kb_normal ?_)
    | (with_reducible refine kb_ret ?_)
    | (with_reducible refine kb_hit ?_)
    | ((with_reducible refine kb_miss ?_ ?_); exact rfl)
    | ((with_reducible apply want_run); exact rfl; exact rfl)
    | ((with_reducible apply want_skip); exact rfl; exact rfl; exact rfl)
    | ((with_reducible apply want_out); exact rfl; exact rfl; exact rfl)
    | ((with_reducible apply want_forkF); exact rfl; exact rfl; exact rfl; (first | exact Bp.not Bp.dec | exact Bp.dec | exact Bp.not Bp.bool | exact Bp.bool); all_goals intro hc)
    | ((with_reducible apply want_forkT); exact rfl; exact rfl; exact rfl; (first | exact Bp.not Bp.dec | exact Bp.dec | exact Bp.not Bp.bool | exact Bp.bool); all_goals intro hc)
    | ((with_reducible apply st_callv); exact rfl; exact rfl; exact rfl; exact rfl; exact turnC_AC 21 1 incO_AC o x; (rintro v rfl); rw [turnCV_eq])
    | ((with_reducible apply st_alloc); exact rfl; exact rfl; exact rfl; exact rfl)
    | ((with_reducible apply st_box); exact rfl; exact rfl; exact rfl; exact rfl)
    | ((with_reducible apply st_loadpelK); exact rfl; exact rfl; assumption; exact rfl; exact rfl)
    | ((with_reducible apply st_loadpel); exact rfl; exact rfl; omega; exact rfl; (intro u hu; refine ⟨_, rfl, ?_⟩; try simp only [Int.toNat_natCast] at hu))
    | ((with_reducible apply st_load); exact rfl; exact rfl; exact rfl; exact rfl; exact rfl)
    | ((with_reducible apply st_store); exact rfl; exact rfl; exact rfl; exact rfl; exact rfl; exact rfl)
    | ((with_reducible apply st_idx); exact rfl; exact rfl; exact rfl; exact rfl; exact rfl; omega)
    | ((with_reducible apply st_len RdT.ok); exact rfl; exact rfl; exact rfl; intro hlen)
    | ((with_reducible apply st_lennil RdT.ok); exact rfl; exact rfl; exact rfl)
    | ((with_reducible apply st_add); exact rfl; exact rfl; exact rfl; omega)
    | ((with_reducible apply st_sub); exact rfl; exact rfl; exact rfl; omega)
    | ((with_reducible apply st_q RdT.ok); exact rfl; exact rfl)
    | ((with_reducible apply c_condT); exact rfl)
    | ((with_reducible apply c_condF); exact rfl)
    | ((with_reducible apply c_cond); exact rfl; (first | exact Bp.not Bp.dec | exact Bp.dec | exact Bp.not Bp.bool | exact Bp.bool); all_goals intro hc))
  (with_reducible apply r_tup); exact rfl; exact .tmp rfl (.tmp rfl .nil); exact rfl; exact .cons (.s (.pv _)) (.cons (.s (.pv _)) .nil); exact hS
  exact ⟨rfl, _, rfl, rfl⟩
theorem decC_AC (o : Option (List Tb)) (x : Rf) : ACv Try.prog 44 [cA o, rA x] fun v => v = turnCV (turnC o x (-1)) := by
  intro L S hL
  refine fn_St (n := 11) (rs := [.tmp 4, .tmp 5]) hands_val RdT.ok RdT.mixed Try.func44 rfl (by kernel_rfl) rfl rfl rfl (by omega) ?_
  intro hS
  show awp _ _ _ _ _ (St L 11 [(0, .a (cA o)), (1, .a (rA x))] S [])
  repeat' (first
    | (with_reducible refine want_none ?_)
    | (with_reducible refine c_seq ?_)
    | (with_reducible refine c_region ?_)
    | ((with_reducible refine c_regionD ?_ ?_ ?_ ?_); (kernel_rfl); (exact rfl); (exact rfl))
    | (with_reducible refine c_block ?_)
    | (with_reducible refine aops_nil ?_)
    | (with_reducible refine k_normal ?_)
    | (with_reducible refine c_skip ?_)
    | (with_reducible refine c_exit ?_)
    | (with_reducible refine c_ret ?_)
    | (with_reducible refine k_ret ?_)
    | (with_reducible refine k_exit ?_)
    | (with_reducible refine kl_ret ?_)
    | (with_reducible refine kl_exit ?_)
    | (with_reducible refine kr_ret ?_)
    | (with_reducible refine kr_exit ?_)
    | (with_reducible refine kb_normal ?_)
    | (with_reducible refine kb_ret ?_)
    | (with_reducible refine kb_hit ?_)
    | ((with_reducible refine kb_miss ?_ ?_); exact rfl)
    | ((with_reducible apply want_run); exact rfl; exact rfl)
    | ((with_reducible apply want_skip); exact rfl; exact rfl; exact rfl)
    | ((with_reducible apply want_out); exact rfl; exact rfl; exact rfl)
    | ((with_reducible apply want_forkF); exact rfl; exact rfl; exact rfl; (first | exact Bp.not Bp.dec | exact Bp.dec | exact Bp.not Bp.bool | exact Bp.bool); all_goals intro hc)
    | ((with_reducible apply want_forkT); exact rfl; exact rfl; exact rfl; (first | exact Bp.not Bp.dec | exact Bp.dec | exact Bp.not Bp.bool | exact Bp.bool); all_goals intro hc)
    | ((with_reducible apply st_callv); exact rfl; exact rfl; exact rfl; exact rfl; exact turnC_AC 23 (-1) decO_AC o x; (rintro v rfl); rw [turnCV_eq])
    | ((with_reducible apply st_alloc); exact rfl; exact rfl; exact rfl; exact rfl)
    | ((with_reducible apply st_box); exact rfl; exact rfl; exact rfl; exact rfl)
    | ((with_reducible apply st_loadpelK); exact rfl; exact rfl; assumption; exact rfl; exact rfl)
    | ((with_reducible apply st_loadpel); exact rfl; exact rfl; omega; exact rfl; (intro u hu; refine ⟨_, rfl, ?_⟩; try simp only [Int.toNat_natCast] at hu))
    | ((with_reducible apply st_load); exact rfl; exact rfl; exact rfl; exact rfl; exact rfl)
    | ((with_reducible apply st_store); exact rfl; exact rfl; exact rfl; exact rfl; exact rfl; exact rfl)
    | ((with_reducible apply st_idx); exact rfl; exact rfl; exact rfl; exact rfl; exact rfl; omega)
    | ((with_reducible apply st_len RdT.ok); exact rfl; exact rfl; exact rfl; intro hlen)
    | ((with_reducible apply st_lennil RdT.ok); exact rfl; exact rfl; exact rfl)
    | ((with_reducible apply st_add); exact rfl; exact rfl; exact rfl; omega)
    | ((with_reducible apply st_sub); exact rfl; exact rfl; exact rfl; omega)
    | ((with_reducible apply st_q RdT.ok); exact rfl; exact rfl)
    | ((with_reducible apply c_condT); exact rfl)
    | ((with_reducible apply c_condF); exact rfl)
    | ((with_reducible apply c_cond); exact rfl; (first | exact Bp.not Bp.dec | exact Bp.dec | exact Bp.not Bp.bool | exact Bp.bool); all_goals intro hc))
  (with_reducible apply r_tup); exact rfl; exact .tmp rfl (.tmp rfl .nil); exact rfl; exact .cons (.s (.pv _)) (.cons (.s (.pv _)) .nil); exact hS
  exact ⟨rfl, _, rfl, rfl⟩
end Go.Proofs.Ytfdaioinghfjpaa

/- Iterators: runs.all: the runs of places that are not used. -/
import Derived.Test.YtfdaioinghfjpaaF12
import Derived.RangeFuncBox
import Derived.WalkKit
import Derived.OwnWalkIn
import Derived.TacticsInMore
import Derived.LoopNIn
import Derived.LoopIn
import Derived.Lib.Hide
namespace Go.Proofs.Ytfdaioinghfjpaa
open Go.Rd Go.RowKit
set_option maxRecDepth 20000
attribute [local go_sem] Oper.semAt_some

/-- What runs.all hands out, from place k on, m free ones behind. -/
def runs1 (k m : Nat) : List Bool → List (Int × Int)
  | [] => if 0 < m then [((k : Int) - m, (m : Int))] else []
  | b :: r => if b = false then runs1 (k + 1) (m + 1) r else if 0 < m then ((k : Int) - m, (m : Int)) :: runs1 (k + 1) 0 r else runs1 (k + 1) 0 r

def pairA (p : Int × Int) : List AV := [.s (.pv (.lit (.int .i64 p.1))), .s (.pv (.lit (.int .i64 p.2)))]
def pairV (p : Int × Int) : List Value := [.int .i64 p.1, .int .i64 p.2]

set_option maxRecDepth 100000 in
set_option maxHeartbeats 2000000 in
theorem all1_in (w : World) (G : Nat → Prop) (B blk off cap : Nat) (bs : List Bool) (hmax : bs.length ≤ cap) (_hcap : cap ≤ maxLen) (hsz : bs.length < 9223372036854775807) (hGB : G B) (hGb : bs ≠ [] → G blk) (_hG : ∀ k, G k → k < w.heap.size)
    (hB : w.cell? ⟨B, 0, none⟩ = some (.slice (some ⟨blk, off, none⟩) bs.length cap)) (hcl : ∀ (i : Nat) (b : Bool), bs[i]? = some b → w.cell? ⟨blk, off + i, none⟩ = some (.bool b))
    (l : Nat) (J : Nat → World → Prop) (Jx : World → Prop) (W : World) (hW : ∀ b, G b → W.heap[b]? = w.heap[b]?)
    (hY : ∀ (k : Nat) (y : List Value) (W1 : World), ((runs1 0 0 bs).map pairV)[k]? = some y → J k W1 → YieldAt Fence.wide 1 Try.prog l y.toArray W1 fun e W' =>
      (e = .returned (.bool true) ∧ J (k + 1) W' ∧ ∀ b, G b → W'.heap[b]? = W1.heap[b]?) ∨ (e = .returned (.bool false) ∧ Jx W')) (h0 : J 0 W) :
    CallsIn Fence.wide 2 Try.prog 134 #[.func (.yield l) #[] #[], .pointer (some ⟨B, 0, none⟩)] W fun e W' => (∃ v, e = .returned v) ∧ (J (runs1 0 0 bs).length W' ∨ Jx W') := by
  refine callsIn_of_wp Try.func134 rfl trivial ?_ rfl
  simp only [Try.ntmps134, List.size_toArray, List.length_cons, List.length_nil, Nat.reduceAdd, Nat.reduceSub, Array.replicate_succ, Array.replicate_zero, List.push_toArray, List.append_toArray, List.nil_append, List.cons_append]
  have hB1 : W.cell? ⟨B, 0, none⟩ = some (.slice (some ⟨blk, off, none⟩) bs.length cap) := (World.cell?_of_block (hW B hGB)).trans hB
  have HY := Lib.hid hY; clear hY
  have HW := Lib.hid hW; clear hW
  have HC := Lib.hid hcl; clear hcl
  have HB := Lib.hid hB; clear hB
  gi_wp2
  gi_loopw [3, 8] (fun n i wr => ∃ (k m : Nat) (done : List (Int × Int)), i = .int .i64 k ∧ n = .int .i64 m ∧ m ≤ k ∧ k ≤ bs.length + 1 ∧
      ((k ≤ bs.length ∧ runs1 0 0 bs = done ++ runs1 k m (bs.drop k)) ∨ (k = bs.length + 1 ∧ runs1 0 0 bs = done)) ∧ J done.length wr ∧ ∀ b, G b → wr.heap[b]? = w.heap[b]?)
    (fun _ i _ => bs.length + 1 - (intOf i).toNat)
  case atStart => exact ⟨0, 0, [], rfl, rfl, Nat.le_refl _, Nat.zero_le _, .inl ⟨Nat.zero_le _, rfl⟩, h0, HW.out⟩
  case round =>
    obtain ⟨k, m, dn, rfl, rfl, hmk, hk1, hcase, hJs, hfr⟩ := hrel
    have hBr : wr.cell? ⟨B, 0, none⟩ = some (.slice (some ⟨blk, off, none⟩) bs.length cap) := (World.cell?_of_block (hfr B hGB)).trans HB.out
    have hcr : ∀ (b : Bool), bs[k]? = some b → wr.cell? ⟨blk, off + k, none⟩ = some (.bool b) := fun b hb => by
      have hne : bs ≠ [] := by rintro rfl; simp at hb
      exact (World.cell?_of_block (hfr blk (hGb hne))).trans (HC.out k b hb)
    have HF := Lib.hid hfr; clear hfr
    -- what is owed where a round goes on, and where one says 'no more'
    by_cases hlt : k < bs.length
    · obtain ⟨b, hb⟩ : ∃ b, bs[k]? = some b := ⟨bs[k], List.getElem?_eq_getElem hlt⟩
      have hcell := hcr b hb
      clear hcr
      have hdr : bs.drop k = b :: bs.drop (k + 1) := drop_cons hb
      have Hcase := Lib.hid hcase; clear hcase
      have Hb := Lib.hid hb; clear hb
      have Hdr := Lib.hid hdr; clear hdr
      cases b with
      | false =>
        gi_wp2
        go_roundw
        case rel =>
          refine ⟨k + 1, m + 1, dn, by go_num, by go_num, by omega, by omega, .inl ⟨by omega, ?_⟩, hJs, HF.out⟩
          rcases Hcase.out with ⟨_, h⟩ | ⟨h, _⟩
          · rw [h, Hdr.out, runs1, if_pos rfl]
          · omega
        case measure => simp [intOf]; omega
      | true =>
        by_cases hm0 : 0 < m
        · have hlook : ((runs1 0 0 bs).map pairV)[dn.length]? = some (pairV ((k : Int) - m, (m : Int))) ∧ runs1 0 0 bs = (dn ++ [((k : Int) - m, (m : Int))]) ++ runs1 (k + 1) 0 (bs.drop (k + 1)) := by
            rcases Hcase.out with ⟨_, h⟩ | ⟨h, _⟩
            · rw [h, Hdr.out, runs1, if_neg (by decide), if_pos hm0]
              simp
            · omega
          obtain ⟨hl1, hl2⟩ := hlook
          obtain ⟨fn, tmps, assign, body, hy, hR⟩ := HY.out _ _ wr hl1 hJs
          have Hl1 := Lib.hid hl1; clear hl1
          have Hl2 := Lib.hid hl2; clear hl2
          dsimp only [pairV] at hy
          gi_wp2
          refine hR.mono ?_
          rintro e W3 (⟨rfl, hJ3, hk3⟩ | ⟨rfl, hJx3⟩)
          · have Hk3 := Lib.hid hk3; clear hk3
            gi_wp2
            go_roundw
            case rel =>
              refine ⟨k + 1, 0, dn ++ [((k : Int) - m, (m : Int))], by go_num, by go_num, by omega, by omega, .inl ⟨by omega, Hl2.out⟩, ?_, fun b hb => (Hk3.out b hb).trans (HF.out b hb)⟩
              rw [List.length_append]; exact hJ3
            case measure => simp [intOf]; omega
          · gi_wp2
            refine bodyPost_ret (results_none rfl _ _ _) rfl ?_
            exact ⟨⟨_, rfl⟩, .inr hJx3⟩
        · obtain rfl : m = 0 := by omega
          gi_wp2
          refine ⟨fun _ h => (by cases h), ?_⟩
          gi_wp2
          go_roundw
          case rel =>
            refine ⟨k + 1, 0, dn, by go_num, by go_num, by omega, by omega, .inl ⟨by omega, ?_⟩, hJs, HF.out⟩
            rcases Hcase.out with ⟨_, h⟩ | ⟨h, _⟩
            · rw [h, Hdr.out, runs1, if_neg (by decide), if_neg (by omega)]
            · omega
          case measure => simp [intOf]; omega
    · clear hcr
      rcases hcase with ⟨h1, h2⟩ | ⟨rfl, h2⟩
      · obtain rfl : k = bs.length := by omega
        rw [List.drop_length] at h2
        by_cases hm0 : 0 < m
        · have hlook : ((runs1 0 0 bs).map pairV)[dn.length]? = some (pairV ((bs.length : Int) - m, (m : Int))) ∧ runs1 0 0 bs = dn ++ [((bs.length : Int) - m, (m : Int))] := by
            rw [h2, runs1, if_pos hm0]
            simp
          clear h2
          obtain ⟨hl1, hl2⟩ := hlook
          obtain ⟨fn, tmps, assign, body, hy, hR⟩ := HY.out _ _ wr hl1 hJs
          have Hl1 := Lib.hid hl1; clear hl1
          have Hl2 := Lib.hid hl2; clear hl2
          dsimp only [pairV] at hy
          gi_wp2
          refine hR.mono ?_
          rintro e W3 (⟨rfl, hJ3, hk3⟩ | ⟨rfl, hJx3⟩)
          · have Hk3 := Lib.hid hk3; clear hk3
            gi_wp2
            go_roundw
            case rel =>
              refine ⟨bs.length + 1, 0, dn ++ [((bs.length : Int) - m, (m : Int))], by go_num, by go_num, by omega, by omega, .inr ⟨rfl, Hl2.out⟩, ?_, fun b hb => (Hk3.out b hb).trans (HF.out b hb)⟩
              rw [List.length_append]; exact hJ3
            case measure => simp [intOf]
          · gi_wp2
            refine bodyPost_ret (results_none rfl _ _ _) rfl ?_
            exact ⟨⟨_, rfl⟩, .inr hJx3⟩
        · obtain rfl : m = 0 := by omega
          have H2 := Lib.hid h2; clear h2
          gi_wp2
          refine ⟨fun _ h => (by cases h), ?_⟩
          gi_wp2
          go_roundw
          case rel =>
            refine ⟨bs.length + 1, 0, dn, by go_num, by go_num, by omega, by omega, .inr ⟨rfl, ?_⟩, hJs, HF.out⟩
            rw [H2.out, runs1, if_neg (by omega), List.append_nil]
          case measure => simp [intOf]
      · have H2 := Lib.hid h2; clear h2
        gi_wp2
        go_end0
        exact ⟨⟨_, rfl⟩, .inl (by rw [H2.out]; exact hJs)⟩

theorem encB_get {bs : List Bool} {i : Nat} {e : List PV} (h : (bs.map encB)[i]? = some e) : ∃ b, bs[i]? = some b ∧ e = [.lit (.bool b)] := by
  rw [List.getElem?_map] at h
  cases hb : bs[i]? with
  | none => simp [hb] at h
  | some b => simp only [hb, Option.map_some, Option.some.injEq] at h; exact ⟨b, rfl, h.symm⟩

/-- runs.all's function. -/
theorem all1_iter (bs : List Bool) (hsz : bs.length < 9223372036854775807) (hne : bs ≠ []) : Iter Try.prog 134 [[.row 1 (bs.map encB)]] ((runs1 0 0 bs).map pairA) := by
  refine ⟨enters_of Try.func134 (by kernel_rfl) rfl, fun w G vs hG hrep => ?_⟩
  cases hrep with
  | clo _ _ _ blk u hvl hv hc hr =>
  obtain ⟨v0, rfl⟩ := List.length_eq_one_iff.1 hvl
  obtain ⟨h1, h2⟩ := hv 0 _ rfl
  simp only [List.getElem?_cons_zero, Option.some.injEq] at h1
  subst h1
  have hc0 := hc 0 0 _ _ rfl rfl
  have hr0 := hr 0 0 _ _ rfl rfl
  obtain ⟨b1, off, sp, cap, hval, hsp, q1, q2, q3⟩ := RepP.row_inv hr0
  obtain rfl : sp = none := hsp.resolve_right (by have := List.length_pos_iff.2 hne; rw [List.length_map] at q1; omega)
  rw [hval] at hc0
  rw [List.length_map] at hc0 q1
  refine ⟨(runs1 0 0 bs).map pairV, by simp, fun k x y hx hy => ?_, fun l J Jx W hW _ _ hY h0 => ?_⟩
  · rw [List.getElem?_map] at hx hy
    cases hp : (runs1 0 0 bs)[k]? with
    | none => simp [hp] at hx
    | some p =>
      simp only [hp, Option.map_some, Option.some.injEq] at hx hy
      subst hx; subst hy
      refine ⟨rfl, fun j u v hu hv => ?_⟩
      match j, hu, hv with
      | 0, hu, hv => cases hu; cases hv; exact .lit _ rfl
      | 1, hu, hv => cases hu; cases hv; exact .lit _ rfl
  · have := all1_in w G (blk 0) b1 off cap bs q1 q2 hsz h2 (fun hne => q3.good (by simpa using hne)) hG hc0 (fun i b hb => ?_) l J Jx W (fun b hb => hW.block b (hG b hb)) hY h0
    · rw [List.length_map]
      exact callsIn_wide.1 this
    · obtain ⟨u, hu, hru⟩ := q3.cell i 0 [.lit (.bool b)] (.lit (.bool b)) (by rw [List.getElem?_map, hb]; rfl) rfl
      obtain ⟨rfl, _⟩ := RepP.lit_inv hru
      simpa using hu

/-- runs.all. -/
theorem all_AC (bs : List Bool) : ACv Try.prog 108 [bA (some bs)] fun v => v = .a (.s (.pv (.clo 134 [[.row 1 (bs.map encB)]]))) := by
  intro L S hL
  refine fn_St (n := 4) (rs := [.tmp 2]) hands_val RdT.ok RdT.mixed Try.func108 rfl (by kernel_rfl) rfl rfl rfl (by omega) ?_
  intro hS
  show awp _ _ _ _ _ (St L 4 [(0, row 1 (bs.map encB))] S [])
  repeat' (first
    | (with_reducible refine want_none ?_)
    | (with_reducible refine c_seq ?_)
    | (with_reducible refine c_region ?_)
    | ((with_reducible refine c_regionD ?_ ?_ ?_ ?_); (kernel_rfl); (exact rfl); (exact rfl))
    | (with_reducible refine c_block ?_)
    | (with_reducible refine aops_nil ?_)
    | (with_reducible refine k_normal ?_)
    | (with_reducible refine c_skip ?_)
    | (with_reducible refine c_exit ?_)
    | (with_reducible refine c_ret ?_)
    | (with_reducible refine k_ret ?_)
    | (with_reducible refine k_exit ?_)
    | (with_reducible refine kl_ret ?_)
    | (with_reducible refine kl_exit ?_)
    | (with_reducible refine kr_ret ?_)
    | (with_reducible refine kr_exit ?_)
    | (with_reducible refine kb_normal ?_)
    | (with_reducible refine kb_ret ?_)
    | (with_reducible refine kb_hit ?_)
    | ((with_reducible refine kb_miss ?_ ?_); exact rfl)
    | ((with_reducible apply want_run); exact rfl; exact rfl)
    | ((with_reducible apply want_skip); exact rfl; exact rfl; exact rfl)
    | ((with_reducible apply want_out); exact rfl; exact rfl; exact rfl)
    | ((with_reducible apply want_forkF); exact rfl; exact rfl; exact rfl; (first | exact Bp.not Bp.dec | exact Bp.dec | exact Bp.not Bp.bool | exact Bp.bool); all_goals intro hc)
    | ((with_reducible apply want_forkT); exact rfl; exact rfl; exact rfl; (first | exact Bp.not Bp.dec | exact Bp.dec | exact Bp.not Bp.bool | exact Bp.bool); all_goals intro hc)
    | ((with_reducible apply st_alloc); exact rfl; exact rfl; exact rfl; exact rfl)
    | ((with_reducible apply st_box); exact rfl; exact rfl; exact rfl; exact rfl)
    | ((with_reducible apply st_loadpelK); exact rfl; exact rfl; assumption; exact rfl; exact rfl)
    | ((with_reducible apply st_loadpel); exact rfl; exact rfl; omega; exact rfl; (intro u hu; refine ⟨_, rfl, ?_⟩; try simp only [Int.toNat_natCast] at hu))
    | ((with_reducible apply st_load); exact rfl; exact rfl; exact rfl; exact rfl; exact rfl)
    | ((with_reducible apply st_store); exact rfl; exact rfl; exact rfl; exact rfl; exact rfl; exact rfl)
    | ((with_reducible apply st_idx); exact rfl; exact rfl; exact rfl; exact rfl; exact rfl; omega)
    | ((with_reducible apply st_len RdT.ok); exact rfl; exact rfl; exact rfl; intro hlen)
    | ((with_reducible apply st_lennil RdT.ok); exact rfl; exact rfl; exact rfl)
    | ((with_reducible apply st_add); exact rfl; exact rfl; exact rfl; omega)
    | ((with_reducible apply st_sub); exact rfl; exact rfl; exact rfl; omega)
    | ((with_reducible apply st_q RdT.ok); exact rfl; exact rfl)
    | ((with_reducible apply c_condT); exact rfl)
    | ((with_reducible apply c_condF); exact rfl)
    | ((with_reducible apply c_cond); exact rfl; (first | exact Bp.not Bp.dec | exact Bp.dec | exact Bp.not Bp.bool | exact Bp.bool); all_goals intro hc))
  (with_reducible apply r_one); exact rfl; exact .tmp rfl .nil; exact .s (.cloB 1 [] rfl rfl); exact hS; exact ⟨rfl, _, rfl, rfl⟩
end Go.Proofs.Ytfdaioinghfjpaa

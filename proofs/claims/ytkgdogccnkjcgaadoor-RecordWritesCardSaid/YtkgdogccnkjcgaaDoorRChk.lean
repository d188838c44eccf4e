/-
  WALK of warmpathref22.CheckRecord.
-/
import Derived.Test.YtkgdogccnkjcgaaDoorChk
import Derived.Deep.CutRange
namespace Go.Proofs.YtkgdogccnkjcgaaDoor
open Go.ChangeShapes Go.WideShapes Go.ChangeAt Go.RowKit
def samR (r : Rc) : Bool := (r.clock != 0) || (r.addr != 0) || (r.lost != 0) || decide (0 < r.chain.length)
def cntR (r : Rc) : Bool := (r.index != 0) || (r.value != 0)
theorem blank_sam (r : Rc) : blankR r = !samR r := by
  have e : (r.chain.length == 0) = !decide (0 < r.chain.length) := by cases r.chain <;> simp
  unfold blankR samR
  rw [e]
  cases h1 : (r.clock == 0) <;> cases h2 : (r.addr == 0) <;> cases h3 : (r.lost == 0) <;> cases h4 : decide (0 < r.chain.length) <;> simp_all
theorem form_ref (r : Rc) : formR r = !((!inR r.kind 1 3) || ((r.kind != 1) && samR r) || ((r.kind != 2) && cntR r)) := by
  have hc : ((r.index == 0) && (r.value == 0)) = !cntR r := by unfold cntR; cases h1 : (r.index == 0) <;> cases h2 : (r.value == 0) <;> simp_all
  unfold formR
  rw [blank_sam, hc]
  by_cases k1 : r.kind = 1
  · rw [if_pos k1, k1]; cases samR r <;> cases cntR r <;> rfl
  · rw [if_neg k1]
    by_cases k2 : r.kind = 2
    · rw [if_pos k2, k2]; cases samR r <;> cases cntR r <;> rfl
    · rw [if_neg k2]
      by_cases k3 : r.kind = 3
      · rw [if_pos k3, k3]; cases samR r <;> cases cntR r <;> rfl
      · rw [if_neg k3]
        have : inR r.kind 1 3 = false := by unfold inR; by_cases h1 : 1 ≤ r.kind <;> by_cases h2 : r.kind ≤ 3 <;> simp [h1, h2] ; omega
        rw [this]; rfl
def ok5 (r : Rc) : Bool := inR r.clock (-1125899906842624) 1125899906842624 && inR r.addr 0 1048576 && inR r.lost 0 1073741824 && inR r.index 0 4095 && inR r.value 0 1099511627776
theorem range_ok5 (r : Rc) : rangeR r = (ok5 r && r.chain.all okA) := by
  unfold rangeR ok5 okA
  cases inR r.clock (-1125899906842624) 1125899906842624 <;> cases inR r.addr 0 1048576 <;> cases inR r.lost 0 1073741824 <;> cases inR r.index 0 4095 <;> cases inR r.value 0 1099511627776 <;> simp
/-- the box of a record -/
abbrev bx (w : World) (r : Rc) (s : Value) : World := w.alloc (.cells #[.int .i64 r.kind, .int .i64 r.clock, .int .i64 r.addr, s, .int .i64 r.lost, .int .i64 r.index, .int .i64 r.value] 45)
set_option maxRecDepth 100000 in
set_option maxHeartbeats 8000000 in
theorem refCheckRecord_any (r : Rc) (a : Option Addr) (n cap : Nat) (hm : n ≤ 100000) (w : World) (h : Is w a n cap r.chain) : Calls Tryd.prog 24 #[r.val (.slice a n cap)] w fun e w' => e = .returned (.int .i64 ((ckR r : Nat) : Int)) ∧ Below w.heap.size w w' := by
  have HCH := Lib.hid h
  have hn := h.1
  clear h
  have hb1 : Below w.heap.size w (bx w r (.slice a n cap)) := (Below.refl _ _).alloc (Nat.le_refl _) _
  have HBX := Lib.hid (Below.refl (boxed w r (.slice a n cap)).heap.size (boxed w r (.slice a n cap)))
  go_enter Tryd.func24, Tryd.ntmps24
  go_upto_region 1 with fail
  go_cut [3] from 7 to 29 (fun v3 wx => v3 = .bool (samR r) ∧ wx = bx w r (.slice a n cap))
  case first =>
    go_wp2_with fail
    all_goals go_meet
    all_goals exact ⟨by unfold samR; rw [hn]; simp_all, by first | rfl | (unfold bx; simp_all)⟩
  case rest =>
    obtain ⟨rfl, rfl⟩ := hcut
    go_upto_region 2 with fail
    go_cut [4] from 30 to 37 (fun v4 wx => v4 = .bool (cntR r) ∧ wx = bx w r (.slice a n cap))
    case first =>
      go_wp2_with fail
      all_goals go_meet
      all_goals exact ⟨by unfold cntR; simp_all, by first | rfl | (unfold bx; simp_all)⟩
    case rest =>
      obtain ⟨rfl, rfl⟩ := hcut
      have hf := form_ref r
      obtain ⟨s, hs⟩ : ∃ s, samR r = s := ⟨_, rfl⟩
      obtain ⟨c, hc⟩ : ∃ s, cntR r = s := ⟨_, rfl⟩
      rw [hs, hc] at hf ⊢
      clear hs hc
      go_upto_region 3 with fail
      go_cut [57] from 38 to 57 (fun v57 wx => v57 = .bool (!formR r) ∧ wx = bx w r (.slice a n cap))
      case first =>
        cases q0 : inR r.kind 1 3 <;> cases k1 : (r.kind != 1) <;> cases k2 : (r.kind != 2) <;> cases s <;> cases c
        all_goals
          rw [q0, k1, k2] at hf
          have HF := Lib.hid hf
          clear hf
          go_wp2_with (go_at_call 41; refine (refwithin_any _ _ _ _).mono ?_; rintro e w1 ⟨rfl, rfl⟩)
          go_meet
          exact ⟨by rw [HF.out]; rfl, rfl⟩
      case rest =>
        obtain ⟨rfl, rfl⟩ := hcut
        clear hf
        cases hf : formR r
        case false =>
          have e1 := Lib.hid (show ckR r = 3 by unfold ckR; rw [if_pos hf])
          go_wp2_with fail
          go_ret
          exact ⟨by rw [e1.out]; rfl, hb1⟩
        case true =>
          go_upto_region 6 with fail
          go_cut [87] from 60 to 87 (fun v87 wx => v87 = .bool (!ok5 r) ∧ wx = boxed w r (.slice a n cap))
          case first =>
            cases q1 : inR r.clock (-1125899906842624) 1125899906842624 <;> cases q2 : inR r.addr 0 1048576 <;> cases q3 : inR r.lost 0 1073741824 <;> cases q5 : inR r.index 0 4095 <;> cases q6 : inR r.value 0 1099511627776
            all_goals
              have HF := Lib.hid (show ok5 r = _ by unfold ok5; rw [q1, q2, q3, q5, q6])
              go_wp2_with (go_at_call 41; refine (refwithin_any _ _ _ _).mono ?_; rintro e w1 ⟨rfl, rfl⟩)
              go_meet
              exact ⟨by rw [HF.out]; rfl, rfl⟩
          case rest =>
            obtain ⟨rfl, rfl⟩ := hcut
            obtain ⟨_, ⟨b0, b1, b2, b3⟩, hb⟩ := boxed_cells HBX.out
            have HI := Lib.hid (HCH.out.below hb)
            cases h5 : ok5 r
            case false =>
              have e1 := Lib.hid (show ckR r = 1 by unfold ckR; rw [if_neg (by rw [hf]; simp), if_pos (by rw [range_ok5, h5]; rfl)])
              go_wp2_with fail
              go_ret
              exact ⟨by rw [e1.out]; rfl, hb⟩
            case true =>
              have hr := range_ok5 r
              rw [h5, Bool.true_and] at hr
              generalize boxed w r (.slice a n cap) = wB at *
              rw [Bool.not_true]
              go_wp2_with fail
              go_loopw [6] (fun v6 wr => ∃ k : Nat, k ≤ n ∧ v6 = .int .i64 k ∧ Hid ((r.chain.take k).all okA = true) ∧ wr = wB) (fun v _ => n - (intOf v).toNat)
              case atStart => exact ⟨0, by omega, rfl, Lib.hid rfl, rfl⟩
              case round =>
                obtain ⟨k, hk, rfl, HA, rfl⟩ := hrel
                by_cases hlt : k < n
                · have hkl : k < r.chain.length := by omega
                  obtain ⟨bb, off, rfl, hbl, hcell⟩ := HI.out.2.2.2.2.int k hkl
                  have c1 := hcell k hkl
                  have ht : (r.chain.take (k + 1)).all okA = okA (r.chain.getD k 0) := by
                    rw [List.take_succ_eq_append_getElem hkl, List.all_append, HA.out]; simp [List.getD, hkl]
                  have hall : okA (r.chain.getD k 0) = false → r.chain.all okA = false := by
                    intro hf
                    rw [← Bool.not_eq_true]
                    intro hall
                    have := List.all_eq_true.1 hall (r.chain.getD k 0) (by simp [List.getD, hkl])
                    rw [hf] at this; cases this
                  obtain ⟨x, hx⟩ : ∃ x, r.chain.getD k 0 = x := ⟨_, rfl⟩
                  rw [hx] at c1 ht hall
                  cases hok : okA x
                  · have e1 := Lib.hid (show ckR r = 1 by unfold ckR; rw [if_neg (by rw [hf]; simp), if_pos (by rw [hr]; exact hall hok)])
                    have z9 : inR x 0 1048576 = false := hok
                    clear hcell hx ht hall hok hr
                    go_wp2_with (go_at_call 41; refine (refwithin_any _ _ _ _).mono ?_; rintro e w1 ⟨rfl, rfl⟩)
                    go_ret
                    exact ⟨by rw [e1.out]; rfl, hb⟩
                  · rw [hok] at ht
                    have HT := Lib.hid ht
                    have z9 : inR x 0 1048576 = true := hok
                    clear hcell hx ht hall HA hok
                    go_wp2_with (go_at_call 41; refine (refwithin_any _ _ _ _).mono ?_; rintro e w1 ⟨rfl, rfl⟩)
                    exact ⟨⟨k + 1, by omega, by go_num, HT, trivial⟩, by simp [intOf]; omega⟩
                · obtain rfl : k = n := by omega
                  have hall := HA.out
                  rw [List.take_of_length_le (by omega)] at hall
                  rw [hall] at hr
                  clear hall HA
                  by_cases hl : 32 < k
                  · have e1 := Lib.hid (show ckR r = 5 by unfold ckR; rw [if_neg (by rw [hf]; simp), if_neg (by rw [hr]; simp), if_pos (by omega)])
                    have dl : decide ((32 : Int) < (k : Int)) = true := by simp; omega
                    go_wp2_with fail
                    go_ret
                    exact ⟨by rw [e1.out]; rfl, hb⟩
                  · have e1 := Lib.hid (show ckR r = 0 by unfold ckR; rw [if_neg (by rw [hf]; simp), if_neg (by rw [hr]; simp), if_neg (by omega)])
                    have dl : decide ((32 : Int) < (k : Int)) = false := by simp; omega
                    go_wp2_with fail
                    go_ret
                    exact ⟨by rw [e1.out]; rfl, hb⟩
end Go.Proofs.YtkgdogccnkjcgaaDoor

/-
  WALKS of Count (both), Update (both), warmpathref01.Ints.
-/
import Derived.Test.YtjciifcaahninaaRefEach
namespace Go.Proofs.Ytjciifcaahninaa
open Go.ChangeShapes Go.WideShapes Go.ChangeAt Go.RowKit

/-- how many branches there are -/
def brs (l : List Fet) : Nat := (l.filter br).length
/-- how many of some bools are true -/
def tru (l : List Bool) : Nat := (l.filter id).length
theorem brs_snoc (l : List Fet) (f : Fet) : brs (l ++ [f]) = brs l + if br f then 1 else 0 := by
  unfold brs; rw [List.filter_append, List.length_append]; cases h : br f <;> simp [h]
theorem tru_snoc (l : List Bool) (b : Bool) : tru (l ++ [b]) = tru l + if b then 1 else 0 := by
  unfold tru; rw [List.filter_append, List.length_append]; cases b <;> simp
theorem brs_le (l : List Fet) : brs l ≤ l.length := List.length_filter_le _ _
theorem tru_le (l : List Bool) : tru l ≤ l.length := List.length_filter_le _ _
/-- what Count says -/
def counted (n : Int) (l : List Fet) : Nat × Nat := (brs l, tru (run (newT n) l).2)
def Counted (n : Int) (l : List Fet) (w : World) (e : Ending) (w' : World) : Prop :=
  e = .returned (.tuple #[.int .i64 (counted n l).1, .int .i64 (counted n l).2]) ∧ Below w.heap.size w w'

set_option maxRecDepth 100000 in
set_option maxHeartbeats 4000000 in
theorem Count_any (n : Int) (a : Option Addr) (len cap : Nat) (l : List Fet) (hn : l.length = len) (hm : len ≤ 1000) (hok : FetOk l) (w : World) (hc : Cells w a (fcs l)) :
    Calls Try.prog 11 #[.int .i64 n, .slice a len cap] w (Counted n l w) := by
  have HC := Lib.hid hc
  have HN := Lib.hid hn
  have HOK := Lib.hid hok
  clear hc hn hok
  go_enter Try.func11, Try.ntmps11
  go_wp2_with fail
  refine (Each_any n a len cap l HN.out hm HOK.out _ HC.out).mono ?_
  rintro e w1 ⟨v, rfl, hown, hb1⟩
  rw [HN.out] at hown
  obtain ⟨ea, ecap, rfl, hel, hec, hem, hecell, heb⟩ := Cells.of_own hown
  obtain ⟨o, ho⟩ : ∃ o, (run (newT n) l).2 = o := ⟨_, rfl⟩
  have hol : o.length = len := by rw [← ho, (run_len _ _).2]; exact HN.out
  rw [ho] at hecell
  have HO := Lib.hid ho
  have HOL := Lib.hid hol
  have HE := Lib.hid hecell
  clear hown hel ho hol hecell
  go_wp2_with fail
  go_loop [4, 5, 12] (fun v4 v5 v12 => ∃ k : Nat, k ≤ len ∧ v12 = .int .i64 k ∧ v4 = .int .i64 (brs (l.take k) : Nat) ∧ v5 = .int .i64 (tru (o.take k) : Nat)) (fun _ _ v => len - (intOf v).toNat)
  case atStart => exact ⟨0, by omega, rfl, rfl, rfl⟩
  case round =>
    obtain ⟨k, hk, rfl, rfl, rfl⟩ := hrel
    by_cases hlt : k < len
    · have hkl : k < l.length := by have := HN.out; omega
      have hko : k < o.length := by have := HOL.out; omega
      obtain ⟨b, off, rfl, hbl, hcell⟩ := HC.out.fet k hkl
      obtain ⟨c0, c1, c2⟩ := hcell k hkl
      replace c2 := (hb1.cell (p := ⟨b, off + k * 3 + 2, none⟩) hbl).trans c2
      obtain ⟨b', off', rfl, hbl', hcell'⟩ := HE.out.bool k hko
      have ce := hcell' k hko
      have h1 := brs_snoc (l.take k) (l.getD k (0, 0, 0))
      rw [← take_snoc l k (0, 0, 0) hkl] at h1
      have h2 := tru_snoc (o.take k) (o.getD k false)
      rw [← take_snoc o k false hko] at h2
      have l1 := brs_le (l.take k)
      have l2 := tru_le (o.take k)
      rw [List.length_take] at l1 l2
      obtain ⟨⟨y, s, q⟩, hf⟩ : ∃ f, l.getD k (0, 0, 0) = f := ⟨_, rfl⟩
      obtain ⟨p, hp⟩ : ∃ p, o.getD k false = p := ⟨_, rfl⟩
      rw [hf] at h1 c2
      rw [hp] at h2 ce
      have H1 := Lib.hid h1
      have H2 := Lib.hid h2
      generalize hB : brs (l.take k) = B at *
      generalize hT : tru (o.take k) = T at *
      have hB9 : B ≤ 1000 := by omega
      have hT9 : T ≤ 1000 := by omega
      have HB := Lib.hid hB
      have HT := Lib.hid hT
      simp only at c2
      clear hcell hcell' hf hp h1 h2 l1 l2 c0 c1 hB hT
      have hq : q = 1 ∨ q = 2 ∨ (q ≠ 1 ∧ q ≠ 2) := by omega
      rcases hq with rfl | rfl | ⟨hq1, hq2⟩
      · cases p
        all_goals
          go_wp2_with fail
          go_round
          case rel => exact ⟨k + 1, by omega, by go_num, by rw [H1.out]; rfl, by rw [H2.out]; rfl⟩
          case measure => simp [intOf]; omega
      · cases p
        all_goals
          go_wp2_with fail
          go_round
          case rel => exact ⟨k + 1, by omega, by go_num, by rw [H1.out]; rfl, by rw [H2.out]; rfl⟩
          case measure => simp [intOf]; omega
      · have e1 : (q == 1) = false := by simpa using hq1
        have e2 : (q == 2) = false := by simpa using hq2
        have e3 : br (y, s, q) = false := by simp [br, hq1, hq2]
        have E3 := Lib.hid e3
        clear hq1 hq2 e3
        cases p
        all_goals
          go_wp2_with fail
          go_round
          case rel => exact ⟨k + 1, by omega, by go_num, by rw [H1.out, E3.out]; rfl, by rw [H2.out]; rfl⟩
          case measure => simp [intOf]; omega
    · obtain rfl : k = len := by omega
      have h1 : brs (l.take k) = (counted n l).1 := by rw [List.take_of_length_le (by have := HN.out; omega)]; rfl
      have h2 : tru (o.take k) = (counted n l).2 := by rw [List.take_of_length_le (by have := HOL.out; omega), ← HO.out]; rfl
      rw [h1, h2]
      clear h1 h2
      go_wp2_with fail
      go_ret2
      exact ⟨rfl, hb1⟩
set_option maxRecDepth 100000 in
set_option maxHeartbeats 4000000 in
theorem refCount_any (n : Int) (hn0 : 0 ≤ n) (hn1 : n ≤ 4096) (a : Option Addr) (len cap : Nat) (l : List Fet) (hn : l.length = len) (hm : len ≤ 1000) (hok : FetOk l) (w : World) (hc : Cells w a (fcs l)) :
    Calls Try.prog 20 #[.int .i64 n, .slice a len cap] w (Counted n l w) := by
  have HC := Lib.hid hc
  have HN := Lib.hid hn
  have HOK := Lib.hid hok
  clear hc hn hok
  go_enter Try.func20, Try.ntmps20
  go_wp2_with fail
  refine (refEach_any n hn0 hn1 a len cap l HN.out hm HOK.out _ HC.out).mono ?_
  rintro e w1 ⟨v, rfl, hown, hb1⟩
  rw [HN.out] at hown
  obtain ⟨ea, ecap, rfl, hel, hec, hem, hecell, heb⟩ := Cells.of_own hown
  obtain ⟨o, ho⟩ : ∃ o, (run (newT n) l).2 = o := ⟨_, rfl⟩
  have hol : o.length = len := by rw [← ho, (run_len _ _).2]; exact HN.out
  rw [ho] at hecell
  have HO := Lib.hid ho
  have HOL := Lib.hid hol
  have HE := Lib.hid hecell
  clear hown hel ho hol hecell
  go_wp2_with fail
  go_loop [4, 5, 7] (fun v4 v5 v12 => ∃ k : Nat, k ≤ len ∧ v12 = .int .i64 k ∧ v4 = .int .i64 (brs (l.take k) : Nat) ∧ v5 = .int .i64 (tru (o.take k) : Nat)) (fun _ _ v => len - (intOf v).toNat)
  case atStart => exact ⟨0, by omega, rfl, rfl, rfl⟩
  case round =>
    obtain ⟨k, hk, rfl, rfl, rfl⟩ := hrel
    by_cases hlt : k < len
    · have hkl : k < l.length := by have := HN.out; omega
      have hko : k < o.length := by have := HOL.out; omega
      obtain ⟨b, off, rfl, hbl, hcell⟩ := HC.out.fet k hkl
      obtain ⟨c0, c1, c2⟩ := hcell k hkl
      replace c2 := (hb1.cell (p := ⟨b, off + k * 3 + 2, none⟩) hbl).trans c2
      obtain ⟨b', off', rfl, hbl', hcell'⟩ := HE.out.bool k hko
      have ce := hcell' k hko
      have h1 := brs_snoc (l.take k) (l.getD k (0, 0, 0))
      rw [← take_snoc l k (0, 0, 0) hkl] at h1
      have h2 := tru_snoc (o.take k) (o.getD k false)
      rw [← take_snoc o k false hko] at h2
      have l1 := brs_le (l.take k)
      have l2 := tru_le (o.take k)
      rw [List.length_take] at l1 l2
      obtain ⟨⟨y, s, q⟩, hf⟩ : ∃ f, l.getD k (0, 0, 0) = f := ⟨_, rfl⟩
      obtain ⟨p, hp⟩ : ∃ p, o.getD k false = p := ⟨_, rfl⟩
      rw [hf] at h1 c2
      rw [hp] at h2 ce
      have H1 := Lib.hid h1
      have H2 := Lib.hid h2
      generalize hB : brs (l.take k) = B at *
      generalize hT : tru (o.take k) = T at *
      have hB9 : B ≤ 1000 := by omega
      have hT9 : T ≤ 1000 := by omega
      have HB := Lib.hid hB
      have HT := Lib.hid hT
      simp only at c2
      clear hcell hcell' hf hp h1 h2 l1 l2 c0 c1 hB hT
      have hq : q = 1 ∨ q = 2 ∨ (q ≠ 1 ∧ q ≠ 2) := by omega
      rcases hq with rfl | rfl | ⟨hq1, hq2⟩
      · cases p
        all_goals
          go_wp2_with fail
          go_round
          case rel => exact ⟨k + 1, by omega, by go_num, by rw [H1.out]; rfl, by rw [H2.out]; rfl⟩
          case measure => simp [intOf]; omega
      · cases p
        all_goals
          go_wp2_with fail
          go_round
          case rel => exact ⟨k + 1, by omega, by go_num, by rw [H1.out]; rfl, by rw [H2.out]; rfl⟩
          case measure => simp [intOf]; omega
      · have e1 : (q == 1) = false := by simpa using hq1
        have e2 : (q == 2) = false := by simpa using hq2
        have e3 : br (y, s, q) = false := by simp [br, hq1, hq2]
        have E3 := Lib.hid e3
        clear hq1 hq2 e3
        cases p
        all_goals
          go_wp2_with fail
          go_round
          case rel => exact ⟨k + 1, by omega, by go_num, by rw [H1.out, E3.out]; rfl, by rw [H2.out]; rfl⟩
          case measure => simp [intOf]; omega
    · obtain rfl : k = len := by omega
      have h1 : brs (l.take k) = (counted n l).1 := by rw [List.take_of_length_le (by have := HN.out; omega)]; rfl
      have h2 : tru (o.take k) = (counted n l).2 := by rw [List.take_of_length_le (by have := HOL.out; omega), ← HO.out]; rfl
      rw [h1, h2]
      clear h1 h2
      go_wp2_with fail
      go_ret2
      exact ⟨rfl, hb1⟩

/-- a slice of integers that the call has made -/
def IntsMade (t : List Int) (w : World) (e : Ending) (w' : World) : Prop :=
  ∃ a cap, e = .returned (.slice a t.length cap) ∧ t.length ≤ cap ∧ cap ≤ maxLen ∧ Cells w' a (ints t) ∧ Below w.heap.size w w'
theorem made_of {w w' : World} {t : List Int} {n : Nat} {v : Value} (hn : t.length = n) (h : w'.ownsRow w.heap.size 3 1 v n (ints t)) (hb : Below w.heap.size w w') : IntsMade t w (.returned v) w' := by
  subst hn
  obtain ⟨a, cap, rfl, _, h1, h2, h3, _⟩ := Cells.of_own h
  exact ⟨a, cap, rfl, h1, h2, h3, hb⟩
set_option maxRecDepth 100000 in
set_option maxHeartbeats 4000000 in
theorem Update_any (a : Option Addr) (n cap : Nat) (t : List Int) (y : Int) (tk : Bool) (hy : 0 ≤ y) (hn : t.length = n) (hp : 0 < n) (hm : n ≤ 4096) (hT : Tab t) (w : World) (hc : Cells w a (ints t)) :
    Calls Try.prog 18 #[.slice a n cap, .int .i64 y, .bool tk] w (IntsMade (upd t y tk) w) := by
  obtain ⟨b, off, rfl, hb, hcell⟩ := hc.int 0 (by omega)
  have g0 := Int.emod_nonneg y (b := (n : Int)) (by omega)
  have g1 := Int.emod_lt_of_pos y (b := (n : Int)) (by omega)
  have HC := Lib.hid hcell
  have HU := Lib.hid (show upd t y tk = t.set (y % (n : Int)).toNat (aft (t.getD (y % (n : Int)).toNat 0) tk) by unfold upd at_; rw [hn])
  have hx3 := hT.get (y % (n : Int)).toNat
  have HN := Lib.hid hn
  clear hcell hn hT hc
  go_enter Try.func18, Try.ntmps18
  go_wp2_with fail
  refine (Try.slices_Clone_int b off n cap t _ (by rw [HN.out]; exact Nat.le_refl _) (by omega) HC.out).mono ?_
  rintro e w1 ⟨v, rfl, hown, hne, hb1⟩
  rw [List.take_of_length_le (by rw [HN.out]; exact Nat.le_refl _)] at hown
  obtain ⟨g, cap', rfl, hg1, hg2, hc1, hc2, hil, hgc⟩ := own_block hown (ints_ne t 0 (by have := HN.out; omega))
  have ci := (hb1.cell (p := ⟨b, off + (y % (n : Int)).toNat, none⟩) hb).trans (HC.out (y % (n : Int)).toNat (by have := HN.out; omega))
  have cj := hgc (y % (n : Int)).toNat _ (ints_get t _ (by have := HN.out; omega))
  have fi := World.ownsRow.frozenAt hown (y % (n : Int)).toNat
  obtain ⟨hst, _⟩ := World.ownsRow.stored hown (y % (n : Int)).toNat (.int .i64 (aft (t.getD (y % (n : Int)).toNat 0) tk))
  rw [ints_upd, ← HU.out] at hst
  have HS := Lib.hid hst
  obtain ⟨x, hx⟩ : ∃ x, t.getD (y % (n : Int)).toNat 0 = x := ⟨_, rfl⟩
  rw [hx] at ci cj hx3
  have HX := Lib.hid hx
  obtain ⟨x0, x3⟩ := hx3
  clear hx hst hown hne hgc hil
  go_wp2_with fail
  refine (after_any x tk x0 x3 _).mono ?_
  rintro e w3 ⟨rfl, rfl⟩
  go_wp2_with fail
  go_ret
  have hs := HS.out
  rw [HX.out] at hs
  exact made_of (by rw [upd_len]; exact HN.out) hs (hb1.setCell hg1 _)
end Go.Proofs.Ytjciifcaahninaa

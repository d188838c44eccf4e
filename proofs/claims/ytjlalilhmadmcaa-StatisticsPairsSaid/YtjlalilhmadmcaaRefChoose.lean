/-
  WALK of the reference's Choose (rows by append).
-/
import Derived.Test.YtjlalilhmadmcaaChoose
import Derived.Deep.AppendLies
namespace Go.Proofs.Ytjlalilhmadmcaa
open Go.ChangeShapes Go.WideShapes Go.ChangeAt Go.RowKit
attribute [local go_sem ↓] Go.wp_at_zero Go.wp_at_succ

def rowL (i m : Nat) : List Value := (List.range m).map fun k => Value.int .i64 (bin i k : Nat)
theorem rowL_len (i m : Nat) : (rowL i m).length = m := by simp [rowL]
theorem rowL_get (i m j : Nat) (h : j < m) : (rowL i m)[j]? = some (.int .i64 (bin i j : Nat)) := by simp [rowL, h]
theorem rowL_snoc (i m : Nat) (v : Int) (h : v = (bin i m : Nat)) : rowL i m ++ [Value.int .i64 v] = rowL i (m + 1) := by simp [rowL, List.range_succ, h]
theorem rowL_one (i : Nat) : rowL i 1 = [Value.int .i64 1] := by simp [rowL, List.range_succ, bin_zero]

/-- a slice of the call's own reads as a list of cells -/
theorem own_cell {w : World} {base e g n cap : Nat} {xs : List Value} (h : w.ownsRow base e 1 (.slice (some ⟨g, 0, none⟩) n cap) n xs) (j : Nat) (u : Value) (hu : xs[j]? = some u) : w.cell? ⟨g, j, none⟩ = some u := by
  have := h.cells (g := g) rfl j u hu
  have hadd : (⟨g, 0, none⟩ : Addr).add j = ⟨g, j, none⟩ := by unfold Addr.add; split <;> simp_all
  rwa [hadd] at this
theorem own_len {w : World} {base e g n cap : Nat} {xs : List Value} (h : w.ownsRow base e 1 (.slice (some ⟨g, 0, none⟩) n cap) n xs) : n ≤ cap := by
  rcases h.2 with ⟨h1, _⟩ | ⟨g', cap', cur, hv, _, _, hc, _⟩
  · cases h1
  · injection hv with _ _ h3; omega
theorem own_base {w : World} {base e g n cap : Nat} {xs : List Value} (h : w.ownsRow base e 1 (.slice (some ⟨g, 0, none⟩) n cap) n xs) : base ≤ g ∧ g < w.heap.size := h.lt g rfl

theorem own_box (w : World) (base e : Nat) (cs : Array Value) (hb : base ≤ w.heap.size) (hm : cs.size ≤ maxLen) :
    (w.alloc (.cells cs e)).ownsRow base e 1 (.slice (some ⟨w.heap.size, 0, none⟩) cs.size cs.size) cs.size cs.toList :=
  ⟨by simp, .inr ⟨w.heap.size, cs.size, cs, rfl, hb, heap_alloc_new w _, Nat.le_refl _, hm, by simp, by rw [List.take_of_length_le (by simp)]⟩⟩

theorem Try.info3 : (Try.prog.info? 3).map (fun i => (i.zero, i.size, i.bytes)) = some (some (.int .i64 0), 1, 8) := by kernel_rfl

set_option maxRecDepth 100000 in
set_option maxHeartbeats 1000000 in
theorem refChoose_in (n : Nat) (hn : n ≤ 60) (k : Nat) (hk : k ≤ n) (w : World) :
    Calls Try.prog 16 #[.int .i64 n, .int .i64 k] w fun e w' => e = .returned (.tuple #[.int .i64 (bin n k : Nat), .int .i64 0]) ∧ Below w.heap.size w w' := by
  obtain ⟨i0, hi0, hz0, hz1, hz2⟩ := info_parts Try.info3
  have d1 : decide ((n : Int) < 0) = false := by simp
  have d2 : decide ((60 : Int) < (n : Int)) = false := by simp; omega
  have d3 : decide ((k : Int) < 0) = false := by simp
  have d4 : decide (n < k) = false := by simp; omega
  go_enter Try.func16, Try.ntmps16
  go_wp2
  go_loopw [6, 7] (fun v6 v7 wr => ∃ i g cap : Nat, 1 ≤ i ∧ i ≤ n + 1 ∧ v7 = .int .i64 i ∧ v6 = .slice (some ⟨g, 0, none⟩) i cap ∧ wr.ownsRow w.heap.size 3 1 (.slice (some ⟨g, 0, none⟩) i cap) i (rowL (i - 1) i) ∧ Below w.heap.size w wr) (fun _ v7 _ => n + 1 - (intOf v7).toNat)
  case atStart =>
    refine ⟨1, w.heap.size, 1, by omega, by omega, rfl, rfl, ?_, (Below.refl _ _).alloc (Nat.le_refl _) _⟩
    rw [rowL_one]
    exact own_box w w.heap.size 3 #[.int .i64 1] (Nat.le_refl _) (by simp [maxLen])
  case round =>
    obtain ⟨i, g, cap, h1, h2, rfl, rfl, hown, hb⟩ := hrel
    obtain ⟨wo, rfl⟩ : ∃ wo : World, wo = wr := ⟨_, rfl⟩
    have hob := own_base hown
    have hoc := own_len hown
    obtain ⟨hob1, hob2⟩ := hob
    by_cases hin : i ≤ n
    · go_wp2
      go_loopw [8, 9] (fun v8 v9 wr => ∃ j gn cn : Nat, 1 ≤ j ∧ j ≤ i ∧ v9 = .int .i64 j ∧ v8 = .slice (some ⟨gn, 0, none⟩) j cn ∧ wr.ownsRow w.heap.size 3 1 (.slice (some ⟨gn, 0, none⟩) j cn) j (rowL i j) ∧ wr.ownsRow w.heap.size 3 1 (.slice (some ⟨g, 0, none⟩) i cap) i (rowL (i - 1) i) ∧ gn ≠ g ∧ Below w.heap.size w wr) (fun _ v9 _ => i - (intOf v9).toNat)
      case atStart =>
        refine ⟨1, wo.heap.size, 1, by omega, by omega, rfl, rfl, ?_, hown.alloc _, by omega, hb.alloc hb.size _⟩
        rw [rowL_one]
        exact own_box wo w.heap.size 3 #[.int .i64 1] hb.size (by simp [maxLen])
      case round =>
        obtain ⟨j, gn, cn, j1, j2, rfl, rfl, hownN, hownR, hne, hbb⟩ := hrel
        obtain ⟨hnb1, hnb2⟩ := own_base hownN
        obtain ⟨_, hrb⟩ := own_base hownR
        have hne' : some g ≠ (Value.slice (some ⟨gn, 0, none⟩) j cn).ownBlock := by simpa [Value.ownBlock] using Ne.symm hne
        have hnc := own_len hownN
        have hsz := hbb.size
        by_cases hji : j < i
        · have c1 := own_cell hownR (j - 1) _ (rowL_get (i-1) i (j-1) (by omega))
          have c2 := own_cell hownR j _ (rowL_get (i-1) i j (by omega))
          have hjj0 : (0 : Int) ≤ (j : Int) - 1 := by omega
          have hjj1 : (j : Int) - 1 < (i : Int) := by omega
          have hjj2 : (1 : Int) ≤ (j : Int) := by omega
          have hjj3 : (j : Int) < (i : Int) + 1 := by omega
          have hjj4 : (j : Int) ≤ (i : Int) := by omega
          have hjj5 : (j : Int) < (i : Int) := by omega
          have hjj6 : (0 : Int) ≤ (j : Int) := by omega
          have hbin : bin i j = bin (i-1) (j-1) + bin (i-1) j := by
            obtain ⟨i', rfl⟩ : ∃ i', i = i' + 1 := ⟨i - 1, by omega⟩
            obtain ⟨j', rfl⟩ : ∃ j', j = j' + 1 := ⟨j - 1, by omega⟩
            rfl
          have hbl := bin_le60 (n := i) (by omega) j
          have hsum : bin (i-1) (j-1) + bin (i-1) j ≤ 1152921504606846976 := by omega
          have Hbin := Lib.hid hbin
          clear hbin hbl
          have q1 : IntKind.i64.wrap ((j : Int) - 1) = (j : Int) - 1 := IntWalk.i64_in _ (by omega)
          have q2 : ((j : Int) - 1).toNat = j - 1 := by omega
          have q3 : IntKind.i64.wrap ((bin (i-1) (j-1) : Nat) + (bin (i-1) j : Nat) : Int) = ((bin (i-1) (j-1) : Nat) + (bin (i-1) j : Nat) : Int) := IntWalk.i64_in _ (by omega)
          go_wp2
          go_region_held3 (fun w' => w'.cell? ⟨g, j - 1, none⟩ = some (.int .i64 (bin (i-1) (j-1) : Nat)) ∧ w'.cell? ⟨g, j, none⟩ = some (.int .i64 (bin (i-1) j : Nat)))
            (first
              | go_keep
              | (go_split_ands
                 refine ⟨?_, ?_⟩
                 · (rw [hgrow.cell_far _ (by simp; omega) hne']; assumption)
                 · (rw [hgrow.cell_far _ (by simp; omega) hne']; assumption)))
            ((refine step_append_lies _ (by rfl) _ _ _ (by rfl) w.heap.size 3 i0 _ 1 8 Try.underlying46 hi0 hz0 hz1 hz2 rfl (by omega) _ _ _ (by rfl) ((hownN.alloc _).drew) ⟨wr.heap.size, 0, none⟩ 1 1 [.int .i64 ((bin (i-1) (j-1) : Nat) + (bin (i-1) j : Nat) : Int)] (by rfl) (by rfl) (World.news_of_block (cs := #[.int .i64 ((bin (i-1) (j-1) : Nat) + (bin (i-1) j : Nat) : Int)]) (t := 3) (fr := (0, 0)) (heap_alloc_new wr _)) (by simp [Value.oneCell']) (by omega) (by unfold maxLen; omega) (by omega) (by simp; omega) (wr.heap.size + 1) (by simp) ?_; intro gg cg w1 hown1 hgrow hat hlt))
          have ro := (hownR.alloc (.cells #[.int .i64 ((bin (i-1) (j-1) : Nat) + (bin (i-1) j : Nat) : Int)] 3)).drew.kept hgrow (.inr hne')
          have bo := ((hbb.alloc hbb.size (.cells #[.int .i64 ((bin (i-1) (j-1) : Nat) + (bin (i-1) j : Nat) : Int)] 3)).drew).grown hgrow (by simp; omega) (fun k hk => (hownN.lt k hk).1)
          have ne2 : gg ≠ g := by
            rcases hat with h | h
            · simp [Value.ownBlock] at h; omega
            · omega
          rw [rowL_snoc _ _ _ (by rw [Hbin.out]; simp)] at hown1
          clear q1 q2 q3 hgrow c1 c2 hjj0 hjj1 hjj2 hjj3 hjj4 hjj5 hjj6 hownN hownR hbb hat
          go_wp2
          go_roundw
          case rel => exact ⟨j + 1, gg, cg, by omega, by omega, by go_num, by simp, hown1, ro, ne2, bo⟩
          case measure => simp [intOf]; omega
        · obtain rfl : j = i := by omega
          go_wp2_with (at_builtin; refine wpList_append_lies _ rfl _ _ _ rfl w.heap.size 3 i0 _ 1 8 Try.underlying46 hi0 hz0 hz1 hz2 rfl (by omega) _ _ _ rfl (hownN.alloc _) ⟨wr.heap.size, 0, none⟩ 1 1 [.int .i64 1] rfl rfl (World.news_of_block (cs := #[.int .i64 1]) (t := 3) (fr := (0, 0)) (heap_alloc_new wr _)) (by simp [Value.oneCell']) (by omega) (by unfold maxLen; omega) (by omega) (by simp; omega) (wr.heap.size + 1) (by simp) ?_; intro gg cg w1 hown1 hgrow hat hlt)
          have bo := (hbb.alloc hbb.size (.cells #[.int .i64 1] 3)).grown hgrow (by simp; omega) (fun k hk => (hownN.lt k hk).1)
          rw [rowL_snoc _ _ _ (by rw [bin_self]; rfl)] at hown1
          clear hgrow hownN hownR hbb hat
          go_wp2
          go_roundw
          case rel => exact ⟨j + 1, gg, cg, by omega, by omega, by go_num, by simp, by simpa using hown1, bo⟩
          case measure => simp [intOf]; omega
    · obtain rfl : i = n + 1 := by omega
      have c1 := own_cell hown k _ (rowL_get n (n + 1) k (by omega))
      go_wp2
      go_ret2
      exact ⟨rfl, hb⟩
end Go.Proofs.Ytjlalilhmadmcaa

/-
  Chapter 27: the embosser agrees with the reference.
-/
import Derived.Test.YtgdcogoacnghkaaQOdA
import Derived.Test.YtgdcogoacnghkaaQOeX
namespace Go.Proofs.Ytgdcogoacnghkaa.N
set_option linter.unusedSimpArgs false
set_option linter.unusedVariables false
set_option linter.unusedSectionVars false
open Go.Proofs.Ytgdcogoacnghkaa.Am
set_option maxHeartbeats 4000000
theorem pins_len (w : List Int) : ((w.take 4).map (· % 100 - 2)).length ≤ 10 := by simp; omega
theorem trs_len (l : List (Int × Int × Int)) : ((l.take 5).map trOf).length ≤ 10 := by simp; omega
theorem Mad.frz {u d : List (List Bool)} (m : Mad u d) : List.take 12 (List.map (frzE ∘ UW) u) = u.map RW ∧ List.take 12 (List.map (frzE ∘ UW) d) = d.map RW := ⟨by rw [← m.lu]; exact frz_take u, by rw [← m.ld]; exact frz_take d⟩
theorem dif_len (off y : Int) : ∀ (a b : List Bool) (x : Nat), (dif off y x a b).length ≤ a.length
  | [], b, x => by simp [dif]
  | a :: r, [], x => by simp [dif]
  | a :: r, b :: s, x => by
    have := dif_len off y r s (x + 1)
    unfold dif; split <;> simp <;> omega
theorem scanG_len (w : Nat) : ∀ (us ds us' ds' : List (List Bool)) (y : Nat), Wid w us → Wid w ds → (scanG w y us ds us' ds').length ≤ us.length * (2 * w)
  | u :: us, d :: ds, u' :: us', d' :: ds', y, hu, hd => by
    have h1 := dif_len 0 y u u' 0
    have h2 := dif_len w y d d' 0
    have h3 := scanG_len w us ds us' ds' (y + 1) (fun r hr => hu r (List.mem_cons_of_mem _ hr)) fun r hr => hd r (List.mem_cons_of_mem _ hr)
    have h4 := hu u List.mem_cons_self
    have h5 := hd d List.mem_cons_self
    have e : (us.length + 1) * (2 * w) = us.length * (2 * w) + 2 * w := Nat.succ_mul _ _
    simp only [scanG, List.length_append, List.length_cons]
    rw [e]
    omega
  | [], _, _, _, _, _, _ => by simp [scanG]
  | _ :: _, [], _, _, _, _, _ => by simp [scanG]
  | _ :: _, _ :: _, [], _, _, _, _ => by simp [scanG]
  | _ :: _, _ :: _, _ :: _, [], _, _, _ => by simp [scanG]
theorem Mad.scan {u d : List (List Bool)} (m : Mad u d) (u' d' : List (List Bool)) : (scanG 48 0 u d u' d').length ≤ 100000 := by
  have := scanG_len 48 u d u' d' 0 m.wu m.wd
  rw [m.lu] at this
  exact Nat.le_trans this (by omega)
theorem Matches_fn (x l : List (Int × Int × Int)) (w : List Int) (hx : ∀ p ∈ x, t8 p) (hl : ∀ p ∈ l, t8 p) (hw : ∀ n ∈ w, b8 n) (hll : l.length ≤ maxLen) : Am.Fn Try.prog 3 [0] [.agg [TL x], TL l, UL w] (.bool true) := by
  obtain ⟨u, d, m, hMd⟩ := Made_fn x hx
  have hP := Pins_fn w hw
  have hT := Troubles_fn l hl
  have pl := pins_len w
  have tl := trs_len l
  generalize (w.take 4).map (· % 100 - 2) = ws at hP pl
  generalize (l.take 5).map trOf = ts at hT tl
  obtain ⟨n, hn, hn2⟩ : ∃ n : Nat, (l.length : Int).tmod 20 = n ∧ n < 20 := by
    rw [Int.tmod_eq_emod_of_nonneg (by omega)]
    exact ⟨((l.length : Int) % 20).toNat, by omega, by omega⟩
  obtain ⟨fu, fd⟩ := m.frz
  have lu := m.lu
  have ld := m.ld
  have hE := REqual_fn 48 12 48 12 u d u d m.rws.1 m.rws.2
  rw [decide_eq_true ⟨rfl, rfl, rfl, rfl⟩] at hE
  refine fn_introX mixed (X := X3) c3 18 (by simp [X3]) fun Q hR hN => ?_
  simp [X3]
  refine call_of sanity_fn ?_
  simp
  refine call_of hMd ?_
  simp [lu, ld]
  refine call_of hP ?_
  simp [lu, ld]
  refine call_of hT ?_
  by_cases h0 : n = 0
  · subst h0
    have hM := Make_err 48 12 0 u d ws ts (by omega)
    have hRM := RMake_err 0 u d ws ts (by omega)
    have hS := Same_fn ⟨0, 0, [], [], 0, false, []⟩ ⟨0, 0, [], [], 0, false, []⟩ ⟨by simp, by simp⟩ ⟨by simp, by simp⟩ (by simp)
    rw [decide_eq_true ⟨rfl, ⟨rfl, rfl, rfl, rfl⟩, rfl, rfl⟩] at hS
    have gr0 : Rws ([] : List (List Bool)) := ⟨by simp, by simp⟩
    simp [lu, ld, hn, fu, fd]
    refine call_of hM ?_
    simp [lu, ld, fu, fd]
    refine call_of hRM ?_
    simp [lu, ld, fu, fd]
    refine call_of hS ?_
    simp [lu, ld, fu, fd]
    refine call_of hMd ?_
    simp [lu, ld, fu, fd]
    refine call_of hE ?_
    simp [lu, ld, fu, fd]
    refine hR _ _ ?_
    simp [X3]
  · have hn1 : 1 ≤ n := by omega
    have hM := Make_fn u d n ws ts _ m hn1 (by omega) rfl (m.plan hn1 (by omega)) pl tl
    have hRM := RMake_fn u d n ws ts _ m hn1 (by omega) rfl (m.plan hn1 (by omega)) pl tl
    have mG := makeG_ok u d n ws ts
    have wG := makeG_worn u d n ws ts m hn1 (by omega) pl tl
    generalize makeG u d n ws ts = G at hM hRM mG wG
    obtain ⟨gu, gd⟩ := mG.frz
    have hS := Same_fn (outG G) (outG G) mG.rws.1 mG.rws.2 wG
    rw [decide_eq_true ⟨rfl, ⟨rfl, rfl, rfl, rfl⟩, rfl, rfl⟩] at hS
    have hG := Good_fn 48 12 u d (outG G) mG.rws.1 mG.rws.2
    have hRG := RGood_fn 48 12 u d (outG G) mG.rws.1 mG.rws.2
    have hSc := Scan_fn u d G.u G.d G.strikes (!G.stopped) G.worn m mG
    have hRSc := RScan_fn u d G.u G.d G.strikes (!G.stopped) G.worn m mG
    have glu := mG.lu
    have gld := mG.ld
    have hQ := SamePoints_fn (scanG 48 0 u d G.u G.d) (scanG 48 0 u d G.u G.d) (m.scan _ _)
    rw [decide_eq_true rfl] at hQ
    simp only [outG] at hM hRM hS hG hRG
    simp [lu, ld, fu, fd, glu, gld, gu, gd, hn]
    refine call_of hM ?_
    simp [lu, ld, fu, fd, glu, gld, gu, gd]
    refine call_of hRM ?_
    simp [lu, ld, fu, fd, glu, gld, gu, gd]
    refine call_of hS ?_
    simp [lu, ld, fu, fd, glu, gld, gu, gd]
    refine call_of hMd ?_
    simp [lu, ld, fu, fd, glu, gld, gu, gd]
    refine call_of hE ?_
    simp [lu, ld, fu, fd, glu, gld, gu, gd, outG]
    refine call_of hG ?_
    simp [lu, ld, fu, fd, glu, gld, gu, gd, outG]
    refine call_of hRG ?_
    simp [lu, ld, fu, fd, glu, gld, gu, gd, outG]
    refine call_of hSc ?_
    simp [lu, ld, fu, fd, glu, gld, gu, gd, outG]
    refine call_of hRSc ?_
    simp [lu, ld, fu, fd, glu, gld, gu, gd, outG]
    refine call_of hQ ?_
    simp [lu, ld, fu, fd, glu, gld, gu, gd, outG]
    refine hR _ _ ?_
    simp [X3]
end Go.Proofs.Ytgdcogoacnghkaa.N

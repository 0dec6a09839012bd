/- The walks and the plain laws of CellN, Rw, MeterC, MeterN, MeterR, DiagC. -/
import Derived.Test.YtinaliblnihpbaaGreatV03
import Derived.Test.YtinaliblnihpbaaGreatV01
import Derived.Deep.RegionLaw
import Derived.Laws.ResultCell
import Derived.Lib.Hide
import Derived.Maps.Own
import Derived.Maps.Views
import Derived.Deep.RegionHeld3
set_option linter.unusedVariables false
set_option linter.unusedSimpArgs false
open Go.Lib (hid)
namespace Go.Proofs.YtinaliblnihpbaaGreat
namespace CellC
open Go Go.RowKit Hp Sl AtomC TM DogC MemC
theorem IsCell.kept {w w' : World} {c m : Nat} {y : C} {S : List Nat} (h : IsCell w c m y) (k : Kept S w w') (hS : c ∉ S) : IsCell w' c m y := k.has h hS
theorem IsCell.neM {w : World} {c m mb : Nat} {y : C} {x : M} (h : IsCell w c m y) (hm : IsMem w m mb x) : c ≠ m ∧ c ≠ mb := by
  obtain ⟨wr, a, b, _⟩ := hm; exact ⟨Has.ne h a (by decide), Has.ne h b (by decide)⟩
set_option maxRecDepth 100000 in
set_option maxHeartbeats 3200000 in
theorem spare_call (c m mb : Nat) (y : C) (x : M) (w : World) (h : IsMem w m mb x) (hc : IsCell w c m y) (hoff : x.off = false) : Calls Tryz.prog 202 #[.pointer (some ⟨c, 0, none⟩)] w fun e w' => e = .returned (.tuple #[.int .i64 (x.spare : Nat), .int .i64 0]) ∧ Kept [] w w' := by
  have hlm := h.lt
  have hlc := hc.lt
  have hAz := (Has.new w 185 (arM x 0)).alloc (.cells (arW x 0).toArray 186)
  have hBz := Has.new (w.alloc (.cells (arM x 0).toArray 185)) 186 (arW x 0)
  rw [World.size_alloc] at hBz
  have kA := ((Kept.refl [] w).alloc (.cells (arM x 0).toArray 185)).alloc (.cells (arW x 0).toArray 186)
  have hM := h.kept kA (by simp) (by simp)
  have KA := hid kA
  have HA := hid hAz
  have HB := hid hBz
  have HM := hid hM
  have HC := hid (hc.kept kA (by simp))
  have ee : errA x = 0 := errA_on hoff
  have em0 := markA_on hoff 0
  have em1 := markA_on hoff 1
  have ew0 := wordA_on hoff 0
  have ew1 := wordA_on hoff 1
  have HO := hid hoff
  clear h hc hoff hAz hBz kA hM
  go_enter Tryz.func202, Tryz.ntmps202
  go_wp2_with fail
  have hW : ((w.alloc (.cells (arM x 0).toArray 185)).alloc (.cells (arW x 0).toArray 186)).heap.size = w.heap.size + 2 := by simp
  change Code.wp _ _ _ _ ((w.alloc (.cells (arM x 0).toArray 185)).alloc (.cells (arW x 0).toArray 186))
  generalize ((w.alloc (.cells (arM x 0).toArray 185)).alloc (.cells (arW x 0).toArray 186)) = w0 at *
  generalize hA1 : w.heap.size = A at *
  go_loopw [10] (ArRel w0 A (A + 1) x) (fun i _ => 2 - (intOf i).toNat)
  case atStart => exact ⟨0, by omega, rfl, Kept.refl _ _, HA.out, HB.out⟩
  case round =>
    clear HA HB
    obtain ⟨j, hj, rfl, k2, hA, hB⟩ := hrel
    have hM := HM.out.kept k2 (by simp; omega) (by simp; omega)
    have hC := HC.out.kept k2 (by simp; omega)
    have K2 := hid k2
    have H2 := hid hM
    have HA := hid hA
    have HB := hid hB
    have c0 := hC.cell 0 (v := .pointer (some ⟨m, 0, none⟩)) rfl
    clear k2 hM hA hB hC
    obtain rfl | rfl | rfl : j = 0 ∨ j = 1 ∨ j = 2 := by omega
    · have a0 := HA.out.cell 0 (v := .int .u8 0) rfl
      have b0 := HB.out.cell 0 (v := .int .u32 0) rfl
      have z0 := HA.out.free 0
      have y0 := HB.out.free 0
      go_wp2_with fail
      refine (read_call0 m mb x _ H2.out).mono ?_
      rintro e w2 ⟨rfl, rfl⟩
      go_wp2_with fail
      exact ⟨⟨1, by omega, rfl, (K2.out.set ⟨A, 0, none⟩ _ (by simp)).set ⟨A + 1, 0, none⟩ _ (by simp), (HA.out.set 0 (.int .u8 (x.mark 0))).set_ne ⟨A + 1, 0, none⟩ _ (by simp), (HB.out.set_ne ⟨A, 0, none⟩ _ (by simp)).set 0 (.int .u32 (x.word 0))⟩, by simp [intOf]⟩
    · have a0 := HA.out.cell 1 (v := .int .u8 0) rfl
      have b0 := HB.out.cell 1 (v := .int .u32 0) rfl
      have z0 := HA.out.free 1
      have y0 := HB.out.free 1
      go_wp2_with fail
      refine (read_call1 m mb x _ H2.out).mono ?_
      rintro e w2 ⟨rfl, rfl⟩
      go_wp2_with fail
      exact ⟨⟨2, by omega, rfl, (K2.out.set ⟨A, 1, none⟩ _ (by simp)).set ⟨A + 1, 1, none⟩ _ (by simp), (HA.out.set 1 (.int .u8 (x.mark 1))).set_ne ⟨A + 1, 1, none⟩ _ (by simp), (HB.out.set_ne ⟨A, 1, none⟩ _ (by simp)).set 1 (.int .u32 (x.word 1))⟩, by simp [intOf]⟩
    · have a0 := HA.out.cell 0 (v := .int .u8 (x.mark 0)) rfl
      have a1 := HA.out.cell 1 (v := .int .u8 (x.mark 1)) rfl
      have b0 := HB.out.cell 0 (v := .int .u32 (x.word 0)) rfl
      have b1 := HB.out.cell 1 (v := .int .u32 (x.word 1)) rfl
      have K3 := hid (KA.out.fresh K2.out (by intro i hi hl; simp at hi; omega))
      by_cases h0 : x.mark 0 = 165
      · have e0 := beq165 h0
        by_cases h1 : x.mark 1 = 165
        · have e1 : (x.mark 1 != 165) = false := by simp [h1]
          by_cases h2 : x.word 1 < x.word 0
          · have es := hid (show x.spare = 1 by simp [M.spare, h0, h2])
            have e2 := decide_eq_true h2
            clear h0 h1 h2
            go_wp2_with fail
            go_ret2
            exact ⟨by rw [es.out]; rfl, K3.out⟩
          · have es := hid (show x.spare = 0 by simp [M.spare, h0, h1, h2])
            have e2 := decide_eq_false h2
            clear h0 h1 h2
            go_wp2_with fail
            go_ret2
            exact ⟨by rw [es.out]; rfl, K3.out⟩
        · have e1 : (x.mark 1 != 165) = true := by simp [h1]
          have es := hid (show x.spare = 1 by simp [M.spare, h0, h1])
          clear h0 h1
          go_wp2_with fail
          go_ret2
          exact ⟨by rw [es.out]; rfl, K3.out⟩
      · have e0 := bne165 h0
        have es := hid (show x.spare = 0 by simp [M.spare, h0])
        clear h0
        go_wp2_with fail
        go_ret2
        exact ⟨by rw [es.out]; rfl, K3.out⟩
set_option maxRecDepth 100000 in
set_option maxHeartbeats 3200000 in
theorem next_call (c m mb : Nat) (y : C) (x : M) (w : World) (h : IsMem w m mb x) (hc : IsCell w c m y) (hv : 0 ≤ y.value) (hx : y.max < 4294967296) : Calls Tryz.prog 197 #[.pointer (some ⟨c, 0, none⟩)] w fun e w' => e = .returned (.tuple #[.int .u32 (y.next x).2.2.1, .int .i64 (y.next x).2.2.2]) ∧ Kept [c, m, mb] w w' ∧ IsMem w' m mb (y.next x).2.1 ∧ IsCell w' c m (y.next x).1 := by
  have nC := hc.neM h
  have SP := fun ho W h hc => spare_call c m mb y x W h hc ho
  have c0 := hc.cell 0 (v := .pointer (some ⟨m, 0, none⟩)) rfl
  have c1 := hc.cell 1 (v := .int .u32 y.max) rfl
  have c2 := hc.cell 2 (v := .int .u32 y.value) rfl
  have c3 := hc.cell 3 (v := .bool y.dead) rfl
  have HM := hid h
  have HC := hid hc
  have OC := hid (off_call m mb x w h)
  obtain ⟨s, hs⟩ : ∃ s, y.next x = s := ⟨_, rfl⟩
  rw [hs]
  have hn : s = y.next x := hs.symm
  unfold C.next at hn
  clear h hc hs
  by_cases hd : y.dead = true
  · have hn := hid (hn.trans (if_pos (by simp [hd])))
    rw [hd] at c3
    clear SP hd
    go_enter Tryz.func197, Tryz.ntmps197
    go_wp2_with fail
    go_ret2
    exact ⟨by rw [hn.out]; rfl, Kept.refl _ _, by rw [hn.out]; exact HM.out, by rw [hn.out]; exact HC.out⟩
  have hd : y.dead = false := by simpa using hd
  rw [hd] at c3
  cases ho : x.off
  case true =>
    have hn := hid (hn.trans (if_pos (by simp [ho])))
    rw [ho] at OC
    clear SP hd ho
    go_enter Tryz.func197, Tryz.ntmps197
    go_wp2_with fail
    refine OC.out.mono ?_
    rintro e w1 ⟨rfl, rfl⟩
    go_wp2_with fail
    go_ret2
    exact ⟨by rw [hn.out]; rfl, Kept.refl _ _, by rw [hn.out]; exact HM.out, by rw [hn.out]; exact HC.out⟩
  have SP := hid (SP ho)
  have hn := hn.trans (if_neg (by simp [ho, hd]))
  rw [ho] at OC
  by_cases hm : y.value ≥ y.max
  · have em : decide (y.value ≥ y.max) = true := decide_eq_true hm
    have hn := hid (hn.trans (if_pos hm))
    clear SP hd ho hm
    go_enter Tryz.func197, Tryz.ntmps197
    go_wp2_with fail
    refine OC.out.mono ?_
    rintro e w1 ⟨rfl, rfl⟩
    go_wp2_with fail
    go_quiet (fail)
    go_wp2_with fail
    go_ret2
    exact ⟨by rw [hn.out]; rfl, (Kept.refl _ _).drewN _, by rw [hn.out]; exact HM.out.kept ((Kept.refl [] _).drewN _) (by simp) (by simp), by rw [hn.out]; exact HC.out.drewN _⟩
  · have em : decide (y.value ≥ y.max) = false := decide_eq_false hm
    have hn := hn.trans (if_neg hm)
    have ev : (y.value + 1) % 4294967296 = y.value + 1 := by omega
    have hlt : y.value < y.max := by omega
    have EW := hid (show IntKind.u32.wrap (y.value + 1) = y.value + 1 by rw [IntKind.wrap_u32]; omega)
    clear hd ho hm
    have hs01 : x.spare = 0 ∨ x.spare = 1 := by unfold M.spare; split <;> simp
    go_enter Tryz.func197, Tryz.ntmps197
    go_wp2_with fail
    refine OC.out.mono ?_
    rintro e w1 ⟨rfl, rfl⟩
    go_wp2_with fail
    go_quiet (fail)
    have kq := (Kept.refl [] w1).drewN nq
    have HMW := hid (HM.out.kept kq (by simp) (by simp))
    have HCW := hid (HC.out.kept kq (by simp))
    have KW := hid kq
    have SP := SP.out _ HMW.out HCW.out
    clear kq HM HC OC c0 c1 c2 c3
    generalize w1.drewN nq = wq at *
    obtain hsp0 | hsp1 := hs01
    · have hsp := hsp0
      have ec : ((x.spare : Nat) : Int) = 0 := by omega
      have WC0 := (fun W h => write_call0 m mb x (y.value + 1) (by omega) W h)
      rw [ec] at SP
      have SP := hid SP
      rw [hsp] at hn
      obtain ⟨r, hr⟩ : ∃ r, x.slot 0 (y.value + 1) = r := ⟨_, rfl⟩
      obtain ⟨rm, re⟩ := r
      rw [hr] at hn WC0
      simp only at hn WC0
      have WC := hid WC0
      clear hsp hsp0 hr WC0 ec
      go_wp2_with fail
      refine SP.out.mono ?_
      rintro e w1 ⟨rfl, k1⟩
      have K1 := hid (KW.out.trans k1)
      have c0' := (k1.has (HCW.out) (by simp)).cell 0 (v := .pointer (some ⟨m, 0, none⟩)) rfl
      have c2' := (k1.has (HCW.out) (by simp)).cell 2 (v := .int .u32 y.value) rfl
      have H1 := hid (HMW.out.kept k1 (by simp) (by simp))
      have HC1 := hid (k1.has HCW.out (by simp))
      clear k1 SP
      have d0 := fun W (k : Kept [m, mb] w1 W) => And.intro ((k.has HC1.out (by simp; exact nC)).cell 0 (v := .pointer (some ⟨m, 0, none⟩)) rfl) ((k.has HC1.out (by simp; exact nC)).cell 2 (v := .int .u32 y.value) rfl)
      have D0 := hid d0
      have dd := d0 _ ((Kept.refl _ w1).drew)
      clear d0
      go_wp2_with fail
      go_region_held3 (fun w' => w'.cell? ⟨c, 0, none⟩ = some (.pointer (some ⟨m, 0, none⟩)) ∧ w'.cell? ⟨c, 2, none⟩ = some (.int .u32 y.value)) (first | assumption | go_keep)
        (first
          | (go_at_call 115; rw [EW.out]; refine (WC.out _ (H1.out.kept ((Kept.refl [] w1).drewN 1) (by simp) (by simp))).mono ?_; rintro e w5 ⟨rfl, k5, h5⟩; have q5 := D0.out _ (((Kept.refl [m, mb] w1).drewN 1).trans k5)))
      have K5 := hid (((K1.out.mono (S' := [c, m, mb]) (by simp)).trans (((Kept.refl [] w1).drewN 1).mono (by simp))).trans (k5.mono (by intro k hk; simp at hk ⊢; omega)))
      have HC5 := hid (k5.has ((HC1.out).drewN 1) (by simp; exact nC))
      have H5 := hid h5
      clear K1 H1 HC1 D0 dd q5 k5 h5 WC c0' c2'
      by_cases h0 : re = 0
      · have n0 : (re != 0) = false := by simpa using h0
        have nn := hid (hn.trans (if_pos h0))
        have c2 := HC5.out.cell 2 (v := .int .u32 y.value) rfl
        have z2 := HC5.out.free 2
        have k6 := (Kept.refl [c, m, mb] w5).set ⟨c, 2, none⟩ (.int .u32 (y.value + 1)) (by simp)
        have K6 := hid (K5.out.trans k6)
        have H6 := hid (H5.out.kept ((Kept.refl [c] w5).set ⟨c, 2, none⟩ (.int .u32 (y.value + 1)) (by simp)) (by simp; omega) (by simp; omega))
        have HC6 := hid (HC5.out.set 2 (.int .u32 (y.value + 1)))
        clear k6 hn h0
        go_wp2_with fail
        go_ret2
        exact ⟨by rw [nn.out]; rfl, K6.out, by rw [nn.out]; exact H6.out, by rw [nn.out]; exact HC6.out⟩
      · have n0 : (re != 0) = true := by simpa using h0
        have nn := hid (hn.trans (if_neg h0))
        have c3 := HC5.out.cell 3 (v := .bool y.dead) rfl
        have z3 := HC5.out.free 3
        have k6 := (Kept.refl [c, m, mb] w5).set ⟨c, 3, none⟩ (.bool true) (by simp)
        have K6 := hid (K5.out.trans k6)
        have H6 := hid (H5.out.kept ((Kept.refl [c] w5).set ⟨c, 3, none⟩ (.bool true) (by simp)) (by simp; omega) (by simp; omega))
        have HC6 := hid (HC5.out.set 3 (.bool true))
        clear k6 hn h0
        go_wp2_with fail
        go_ret2
        exact ⟨by rw [nn.out]; rfl, K6.out, by rw [nn.out]; exact H6.out, by rw [nn.out]; exact HC6.out⟩
    · have hsp := hsp1
      have ec : ((x.spare : Nat) : Int) = 1 := by omega
      have WC0 := (fun W h => write_call1 m mb x (y.value + 1) (by omega) W h)
      rw [ec] at SP
      have SP := hid SP
      rw [hsp] at hn
      obtain ⟨r, hr⟩ : ∃ r, x.slot 1 (y.value + 1) = r := ⟨_, rfl⟩
      obtain ⟨rm, re⟩ := r
      rw [hr] at hn WC0
      simp only at hn WC0
      have WC := hid WC0
      clear hsp hsp1 hr WC0 ec
      go_wp2_with fail
      refine SP.out.mono ?_
      rintro e w1 ⟨rfl, k1⟩
      have K1 := hid (KW.out.trans k1)
      have c0' := (k1.has (HCW.out) (by simp)).cell 0 (v := .pointer (some ⟨m, 0, none⟩)) rfl
      have c2' := (k1.has (HCW.out) (by simp)).cell 2 (v := .int .u32 y.value) rfl
      have H1 := hid (HMW.out.kept k1 (by simp) (by simp))
      have HC1 := hid (k1.has HCW.out (by simp))
      clear k1 SP
      have d0 := fun W (k : Kept [m, mb] w1 W) => And.intro ((k.has HC1.out (by simp; exact nC)).cell 0 (v := .pointer (some ⟨m, 0, none⟩)) rfl) ((k.has HC1.out (by simp; exact nC)).cell 2 (v := .int .u32 y.value) rfl)
      have D0 := hid d0
      have dd := d0 _ ((Kept.refl _ w1).drew)
      clear d0
      go_wp2_with fail
      go_region_held3 (fun w' => w'.cell? ⟨c, 0, none⟩ = some (.pointer (some ⟨m, 0, none⟩)) ∧ w'.cell? ⟨c, 2, none⟩ = some (.int .u32 y.value)) (first | assumption | go_keep)
        (first
          | (go_at_call 115; rw [EW.out]; refine (WC.out _ (H1.out.kept ((Kept.refl [] w1).drewN 1) (by simp) (by simp))).mono ?_; rintro e w5 ⟨rfl, k5, h5⟩; have q5 := D0.out _ (((Kept.refl [m, mb] w1).drewN 1).trans k5)))
      have K5 := hid (((K1.out.mono (S' := [c, m, mb]) (by simp)).trans (((Kept.refl [] w1).drewN 1).mono (by simp))).trans (k5.mono (by intro k hk; simp at hk ⊢; omega)))
      have HC5 := hid (k5.has ((HC1.out).drewN 1) (by simp; exact nC))
      have H5 := hid h5
      clear K1 H1 HC1 D0 dd q5 k5 h5 WC c0' c2'
      by_cases h0 : re = 0
      · have n0 : (re != 0) = false := by simpa using h0
        have nn := hid (hn.trans (if_pos h0))
        have c2 := HC5.out.cell 2 (v := .int .u32 y.value) rfl
        have z2 := HC5.out.free 2
        have k6 := (Kept.refl [c, m, mb] w5).set ⟨c, 2, none⟩ (.int .u32 (y.value + 1)) (by simp)
        have K6 := hid (K5.out.trans k6)
        have H6 := hid (H5.out.kept ((Kept.refl [c] w5).set ⟨c, 2, none⟩ (.int .u32 (y.value + 1)) (by simp)) (by simp; omega) (by simp; omega))
        have HC6 := hid (HC5.out.set 2 (.int .u32 (y.value + 1)))
        clear k6 hn h0
        go_wp2_with fail
        go_ret2
        exact ⟨by rw [nn.out]; rfl, K6.out, by rw [nn.out]; exact H6.out, by rw [nn.out]; exact HC6.out⟩
      · have n0 : (re != 0) = true := by simpa using h0
        have nn := hid (hn.trans (if_neg h0))
        have c3 := HC5.out.cell 3 (v := .bool y.dead) rfl
        have z3 := HC5.out.free 3
        have k6 := (Kept.refl [c, m, mb] w5).set ⟨c, 3, none⟩ (.bool true) (by simp)
        have K6 := hid (K5.out.trans k6)
        have H6 := hid (H5.out.kept ((Kept.refl [c] w5).set ⟨c, 3, none⟩ (.bool true) (by simp)) (by simp; omega) (by simp; omega))
        have HC6 := hid (HC5.out.set 3 (.bool true))
        clear k6 hn h0
        go_wp2_with fail
        go_ret2
        exact ⟨by rw [nn.out]; rfl, K6.out, by rw [nn.out]; exact H6.out, by rw [nn.out]; exact HC6.out⟩
end CellC
namespace Rw
open Go Go.RowKit Hp Sl Ow
def Rws (w : World) (e : TypeId) (sz : Nat) (a : Option Nat) (v : Value) (n : Nat) (xs : List Value) : Prop :=
  xs.length = n * sz ∧ (∀ u ∈ xs, u.oneCell' = true) ∧ ((v = .slice none 0 0 ∧ n = 0 ∧ a = none) ∨ ∃ (g cap : Nat) (cur : List Value), a = some g ∧ v = .slice (some ⟨g, 0, none⟩) n cap ∧ Has w g e cur ∧ n ≤ cap ∧ cap ≤ maxLen ∧ cur.length = cap * sz ∧ cur.take (n * sz) = xs)
theorem Rws.none (w : World) (e : TypeId) (sz : Nat) : Rws w e sz none (.slice none 0 0) 0 [] := ⟨by simp, by simp, .inl ⟨rfl, rfl, rfl⟩⟩
theorem Rws.kept {w w' : World} {e : TypeId} {sz : Nat} {a : Option Nat} {v : Value} {n : Nat} {xs : List Value} {S : List Nat} (h : Rws w e sz a v n xs) (k : Kept S w w') (hS : ∀ g, a = some g → g ∉ S) : Rws w' e sz a v n xs := by
  obtain ⟨hl, h1, h | ⟨g, cap, cur, h1, h2, h3, h4⟩⟩ := h
  · exact ⟨hl, h1, .inl h⟩
  · exact ⟨hl, by assumption, .inr ⟨g, cap, cur, h1, h2, k.has h3 (hS g h1), h4⟩⟩
theorem Rws.shape {w : World} {e : TypeId} {sz : Nat} {a : Option Nat} {v : Value} {n : Nat} {xs : List Value} (h : Rws w e sz a v n xs) : ∃ p cap, v = .slice p n cap ∧ n ≤ cap := by
  obtain ⟨hl, _, ⟨rfl, rfl, _⟩ | ⟨g, cap, cur, _, rfl, _, h, _⟩⟩ := h
  · exact ⟨Option.none, 0, rfl, Nat.le_refl _⟩
  · exact ⟨_, cap, rfl, h⟩
theorem Rws.lt {w : World} {e : TypeId} {sz : Nat} {a : Option Nat} {v : Value} {n : Nat} {xs : List Value} (h : Rws w e sz a v n xs) {g : Nat} (hg : a = some g) : g < w.heap.size := by
  obtain ⟨hl, _, ⟨_, _, rfl⟩ | ⟨g', cap, cur, rfl, _, h, _⟩⟩ := h
  · cases hg
  · cases hg; exact h.lt
theorem Rws.ty {w : World} {e : TypeId} {sz : Nat} {a : Option Nat} {v : Value} {n : Nat} {xs : List Value} (h : Rws w e sz a v n xs) {g : Nat} (hg : a = some g) : ∃ cs, Has w g e cs := by
  obtain ⟨hl, _, ⟨_, _, rfl⟩ | ⟨g', cap, cur, rfl, _, h, _⟩⟩ := h
  · cases hg
  · cases hg; exact ⟨_, h⟩
theorem Rws.cell {w : World} {e : TypeId} {sz : Nat} {a : Option Nat} {v : Value} {n : Nat} {xs : List Value} (h : Rws w e sz a v n xs) (i : Nat) (u : Value) (hi : xs[i]? = some u) : ∃ g cap, v = .slice (some ⟨g, 0, Option.none⟩) n cap ∧ n ≤ cap ∧ a = some g ∧ w.cell? ⟨g, i, Option.none⟩ = some u := by
  obtain ⟨hl, _, ⟨_, rfl, _⟩ | ⟨g, cap, cur, h1, h2, h3, h4, h5, h6, h7⟩⟩ := h
  · have : xs = [] := List.length_eq_zero_iff.1 (by simpa using hl)
    rw [this] at hi; cases hi
  · refine ⟨g, cap, h2, h4, h1, h3.cell i ?_⟩
    rw [← h7] at hi
    have hlt : i < n * sz := by
      rcases Nat.lt_or_ge i (n * sz) with h | h
      · exact h
      · rw [List.getElem?_eq_none (by rw [List.length_take]; omega)] at hi; cases hi
    rw [List.getElem?_take_of_lt hlt] at hi
    exact hi
structure PutS (w w' : World) (e : TypeId) (sz : Nat) (a : Option Nat) (u' : Value) (n : Nat) (xs ys : List Value) : Prop where
  rows : ∃ a', (a' = a ∨ ∃ g, a' = some g ∧ w.heap.size ≤ g) ∧ Rws w' e sz a' u' (n + 1) (xs ++ ys)
  kept : Kept a.toList w w'
variable {P : Program}
theorem run_puts {t e : TypeId} {sz bytes : Nat} {z : Value} (ty : TypeId) (hu : P.underlying t = some (.slice e)) (hinf : (P.info? e).map (fun i => (i.zero, i.size, i.bytes)) = some (some z, sz, bytes)) (hz : z.cells.size = sz) (hsz : 0 < sz) (hby : bytes ≤ 1000)
    (w : World) (a : Option Nat) (u : Value) (n : Nat) (xs ys : List Value) (tb : Nat) (ho : Rws w e sz a u n xs) (ht : Has w tb e ys) (hys : ys.length = sz) (hy : ∀ v ∈ ys, v.oneCell' = true) (hn : n ≤ 1000000) :
    ∃ u' w', (Builtin.append_ #[t, t] ty #[u, .slice (some ⟨tb, 0, none⟩) 1 1]).run P w = .ok u' w' ∧ PutS w w' e sz a u' n xs ys := by
  obtain ⟨i0, hi, hz0, hz1, hz2⟩ := info_parts hinf
  have hnews : ∀ j v, ys[j]? = some v → w.cell? (Addr.add ⟨tb, 0, none⟩ j) = some v := by
    intro j v hj
    rw [Go.WideShapes.add_plain]
    exact (Nat.zero_add j).symm ▸ ht.cell j hj
  have hny : ys.length = 1 * i0.size := by rw [hz1, hys, Nat.one_mul]
  obtain ⟨hl, hxs, ho⟩ := ho
  have hall : ∀ v ∈ xs ++ ys, v.oneCell' = true := fun v hv => (List.mem_append.1 hv).elim (hxs v) (hy v)
  have hlen : (xs ++ ys).length = (n + 1) * sz := by rw [List.length_append, hl, hys, Nat.add_mul, Nat.one_mul]
  have grow : ∀ (cap2 : Nat) (o : Obj) (cs : List Value), o = .cells cs.toArray e → n + 1 ≤ cap2 → cap2 ≤ maxLen → cs.length = cap2 * sz → cs.take ((n + 1) * sz) = xs ++ ys → PutS w (w.drew.alloc o) e sz a (.slice (some ⟨w.heap.size, 0, none⟩) (n + 1) cap2) n xs ys := by
    rintro cap2 o cs rfl h1 h2 h3 h4
    have hk := ((Kept.refl [] w).drew).alloc (.cells cs.toArray e)
    exact ⟨⟨some w.heap.size, .inr ⟨_, rfl, Nat.le_refl _⟩, hlen, hall, .inr ⟨w.heap.size, cap2, cs, rfl, rfl, Has.new w.drew _ _, h1, h2, h3, h4⟩⟩, hk.mono (by simp)⟩
  have hzl : ∀ k, (Builtin.zeroCells z.cells k).toList.length = k * sz := fun k => by simp [size_zeroCells, hz]
  rcases ho with ⟨rfl, rfl, rfl⟩ | ⟨g, cap, cur, rfl, rfl, h1, h2, h3, h4, h5⟩
  · have hx0 : xs = [] := List.length_eq_zero_iff.1 (by simpa using hl)
    subst hx0
    have hr := run_append_nil (P := P) (w := w) t ty e i0 z hu hi hz0 ⟨tb, 0, none⟩ 1 1 ys hny hnews (by decide) (by decide) (by rw [hz2]; omega)
    refine ⟨_, _, hr, ?_⟩
    have hge := grownCap_ge w 1 0 e
    have hcm := grownCap_le_maxLen w 1 0 e (by decide)
    refine grow _ _ (ys ++ (Builtin.zeroCells z.cells (grownCap w 1 0 e - 1)).toList) ?_ hge hcm ?_ ?_
    · congr 1; apply Array.ext'; simp
    · rw [List.length_append, hys, hzl, Nat.sub_mul, Nat.one_mul, Nat.add_sub_cancel' (by simpa using Nat.mul_le_mul_right sz hge)]
    · rw [Nat.zero_add, Nat.one_mul, List.take_append_of_le_length (by omega), List.take_of_length_le (by omega)]; rfl
  · have hmul : n * sz ≤ cap * sz := Nat.mul_le_mul_right _ h2
    have holds : ∀ j v, xs[j]? = some v → w.cell? (Addr.add ⟨g, 0, none⟩ j) = some v := by
      intro j v hj
      rw [Go.WideShapes.add_plain, Nat.zero_add]
      have hj' : j < n * sz := by
        rcases Nat.lt_or_ge j (n * sz) with h | h
        · exact h
        · rw [List.getElem?_eq_none (by omega)] at hj; cases hj
      refine h1.cell j ?_
      rw [← h5, List.getElem?_take_of_lt hj'] at hj
      exact hj
    by_cases hroom : n + 1 ≤ cap
    · have hm2 : (n + 1) * sz ≤ cap * sz := Nat.mul_le_mul_right _ hroom
      rw [Nat.add_mul, Nat.one_mul] at hm2
      have hr := run_append_room (P := P) w t ty e i0 hu hi g n cap cur.toArray (by unfold Has at h1; exact h1) ⟨tb, 0, none⟩ 1 1 ys hny hnews hy hroom (by simp only [hz1]; simp; omega)
      refine ⟨_, _, hr, ?_⟩
      obtain ⟨nw, hnw⟩ : ∃ nw, cur.take (n * sz) ++ ys ++ cur.drop (n * sz + ys.length) = nw := ⟨_, rfl⟩
      have e9 : (cur.toArray.toList.take (n * i0.size) ++ ys ++ cur.toArray.toList.drop (n * i0.size + ys.length)) = nw := by rw [hz1, ← hnw]
      rw [e9]
      have hnew : Has (w.setRow g nw.toArray) g e nw := setRow_heap w g cur.toArray _ e _ (by unfold Has at h1; exact h1)
      have hk : Kept [g] w (w.setRow g nw.toArray) := ⟨rfl, rfl, rfl, by simp, fun k _ hk => setRow_other w g k _ (fun e => hk (by simp [e]))⟩
      have hnl : nw.length = cap * sz := by rw [← hnw]; simp; omega
      refine ⟨⟨some g, .inl rfl, hlen, hall, .inr ⟨g, cap, nw, rfl, rfl, hnew, hroom, h3, hnl, ?_⟩⟩, by simpa using hk⟩
      rw [← hnw, h5, Nat.add_mul, Nat.one_mul, List.take_append_of_le_length (by rw [List.length_append]; omega), List.take_of_length_le (by rw [List.length_append]; omega)]
    · have hr := run_append_grow (P := P) (w := w) t ty e i0 z hu hi hz0 ⟨g, 0, none⟩ n cap xs (by rw [hz1]; exact hl) holds ⟨tb, 0, none⟩ 1 1 ys hny hnews (by omega) (by omega) (growslice_fits (by omega) (by rw [hz2]; exact Nat.le_trans (Nat.mul_le_mul (show n + 1 ≤ 1000001 by omega) hby) (by decide)))
      refine ⟨_, _, hr, ?_⟩
      have hge := grownCap_ge w (n + 1) cap e
      have hcm := grownCap_le_maxLen w (n + 1) cap e (by unfold maxLen; omega)
      have hg2 := Nat.mul_le_mul_right sz hge
      refine grow _ _ (xs ++ ys ++ (Builtin.zeroCells z.cells (grownCap w (n + 1) cap e - (n + 1))).toList) ?_ hge hcm ?_ ?_
      · congr 1; apply Array.ext'; simp
      · rw [List.length_append, hlen, hzl, Nat.sub_mul]; omega
      · rw [List.take_append_of_le_length (by omega)]; exact List.take_of_length_le (by omega)
theorem wp_app_eq {o : Oper} {a : Act} {w w' : World} {K : Act → World → Prop} {Q : Exit → Act → World → Prop} {s x : Operand} {u v v' : Value} {t : TypeId}
    (ho : o.op = .call { callee := .builtin .append, args := #[s, x], argTypes := #[t, t] }) (hs : a.eval s = u) (hx : a.eval x = v)
    (hr : (Builtin.append_ #[t, t] o.type #[u, v]).run P w = .ok v' w') (h : K (a.put o.dst v') w') : o.wp P a w K Q := by
  unfold Oper.wp execOp
  simp only [ho, resolve, invoke, builtin, Sem.run_bind, Sem.run_pure, Result.andThen_ok, List.map_toArray, List.map_cons, List.map_nil, hs, hx, hr]
  exact h
theorem step_puts {ops : Array Oper} {o : Oper} {a : Act} {w : World} {K : Act → World → Prop} {Q : Exit → Act → World → Prop} {E : Prop} (hgd : o.guard = none) (s x : Operand) (t e : TypeId) (sz bytes : Nat) (z : Value)
    (ho : o.op = .call { callee := .builtin .append, args := #[s, x], argTypes := #[t, t] }) (hu : P.underlying t = some (.slice e)) (hinf : (P.info? e).map (fun i => (i.zero, i.size, i.bytes)) = some (some z, sz, bytes)) (hz : z.cells.size = sz) (hsz : 0 < sz) (hby : bytes ≤ 1000)
    (r : Option Nat) (u : Value) (n : Nat) (xs ys : List Value) (tb : Nat) (hR : Rws w e sz r u n xs) (hT : Has w tb e ys) (hys : ys.length = sz) (hy : ∀ v ∈ ys, v.oneCell' = true) (hn : n ≤ 1000000)
    (hs : a.eval s = u) (hx : a.eval x = .slice (some ⟨tb, 0, none⟩) 1 1)
    (h : ∀ v' w', PutS w w' e sz r v' n xs ys → K (a.put o.dst v') w') : if Region.wanted o (yielded ops a.tmps) = true then Oper.wp P o a w K Q else E := by
  have hw : Region.wanted o (yielded ops a.tmps) = true := by simp [Region.wanted, hgd]
  rw [if_pos hw]
  obtain ⟨v', w', hr, hp⟩ := run_puts o.type hu hinf hz hsz hby w r u n xs ys tb hR hT hys hy hn
  exact wp_app_eq ho hs hx hr (h v' w' hp)
theorem wpList_puts {ops : Array Oper} {rest : List Oper} {o : Oper} {a : Act} {Q : Exit → Act → World → Prop} (w : World) (hgd : Region.wanted o (yielded ops a.tmps) = true) (s x : Operand) (t e : TypeId) (sz bytes : Nat) (z : Value)
    (ho : o.op = .call { callee := .builtin .append, args := #[s, x], argTypes := #[t, t] }) (hu : P.underlying t = some (.slice e)) (hinf : (P.info? e).map (fun i => (i.zero, i.size, i.bytes)) = some (some z, sz, bytes)) (hz : z.cells.size = sz) (hsz : 0 < sz) (hby : bytes ≤ 1000)
    (r : Option Nat) (u : Value) (n : Nat) (xs ys : List Value) (tb : Nat) (hR : Rws w e sz r u n xs) (hT : Has w tb e ys) (hys : ys.length = sz) (hy : ∀ v ∈ ys, v.oneCell' = true) (hn : n ≤ 1000000)
    (hs : a.eval s = u) (hx : a.eval x = .slice (some ⟨tb, 0, none⟩) 1 1)
    (h : ∀ v' w', PutS w w' e sz r v' n xs ys → wpList P ops Q rest (a.put o.dst v') w') : wpList P ops Q (o :: rest) a w := by
  obtain ⟨v', w', hr, hp⟩ := run_puts o.type hu hinf hz hsz hby w r u n xs ys tb hR hT hys hy hn
  refine wpList_step fun K hK => ?_
  rw [if_pos hgd]
  unfold Oper.wp execOp
  simp only [ho, resolve, invoke, builtin, Sem.run_bind, Sem.run_pure, Result.andThen_ok, List.map_toArray, List.map_cons, List.map_nil, hs, hx, hr]
  exact hK _ _ (h v' w' hp)
end Rw
namespace MeterC
open Go Go.RowKit Hp Atom AtomC

structure M where
  total : Int
  peak : Int
  any : Bool
  flags : Int
  on : Bool
  last : Option Addr
def M.cells (m : M) : List Value := [.int .u64 m.total, .int .i64 m.peak, .int .u32 (b32 m.any), .int .u32 m.flags, .int .u32 (b32 m.on), .pointer m.last]
def IsM (w : World) (b : Nat) (m : M) : Prop := Has w b 176 m.cells
def M.new : M := ⟨0, 0, false, 0, false, none⟩

theorem new_call (w : World) : Calls Tryz.prog 58 #[] w fun e w' => e = .returned (.pointer (some ⟨w.heap.size, 0, none⟩)) ∧ Kept [] w w' ∧ IsM w' w.heap.size M.new := by
  go_enter Tryz.func58, Tryz.ntmps58
  go_wp2
  go_ret
  exact ⟨rfl, (Kept.refl _ _).alloc _, Has.new w _ _⟩

def addv (t n : Int) : Int := if IntKind.u64.wrap (t + n) < t then 18446744073709551615 else IntKind.u64.wrap (t + n)
def M.add (m : M) (n : Int) : M := { m with total := addv m.total n }
theorem add_call (b : Nat) (m : M) (n : Int) (w : World) (h : IsM w b m) :
    Calls Tryz.prog 123 #[.pointer (some ⟨b, 0, none⟩), .int .u64 n] w fun e w' => e = .returned (.tuple #[.int .u64 (addv m.total n), .int .i64 0]) ∧ Kept [b] w w' ∧ IsM w' b (m.add n) := by
  have c0 := h.cell 0 (v := .int .u64 m.total) rfl
  have z0 := h.free 0
  go_enter Tryz.func123, Tryz.ntmps123
  go_wp2_with fail
  refine wp_loop_once ?_
  go_wp2_with (first | (go_at_call 148; refine (u64_load _ _ _ c0).mono ?_; rintro e w' ⟨rfl, rfl⟩) | (go_at_call 149; refine (u64_cas _ _ _ _ c0 z0).mono ?_; rintro e w' ⟨rfl, rfl⟩))
  · have e : addv m.total n = 18446744073709551615 := if_pos (by assumption)
    go_ret2
    exact ⟨by rw [e]; rfl, (Kept.refl _ _).set _ _ (by simp), by unfold M.add; rw [e]; exact h.set 0 _⟩
  · have e : addv m.total n = IntKind.u64.wrap (m.total + n) := if_neg (by omega)
    go_ret2
    exact ⟨by rw [e]; rfl, (Kept.refl _ _).set _ _ (by simp), by unfold M.add; rw [e]; exact h.set 0 _⟩
def raised (m : M) (v : Int) : Bool := !m.any || decide (m.peak < v)
def M.raise (m : M) (v : Int) : M := if raised m v then { m with any := true, peak := v } else m
theorem raise_call (b : Nat) (m : M) (v : Int) (w : World) (h : IsM w b m) :
    Calls Tryz.prog 124 #[.pointer (some ⟨b, 0, none⟩), .int .i64 v] w fun e w' => e = .returned (.bool (raised m v)) ∧ Kept [b] w w' ∧ IsM w' b (m.raise v) := by
  have c1 := h.cell 1 (v := .int .i64 m.peak) rfl
  have c2 := h.cell 2 (v := .int .u32 (b32 m.any)) rfl
  have z1 := h.free 1
  have z2 := h.free 2
  cases ha : m.any with
  | false =>
    rw [ha] at c2
    have hr : raised m v = true := by simp [raised, ha]
    rw [hr, show m.raise v = { m with any := true, peak := v } from by simp [M.raise, hr]]
    clear ha hr
    have h1 := h.drew.set 2 (.int .u32 1)
    have d1 := h1.cell 1 (v := .int .i64 m.peak) rfl
    have y1 := h1.free 1
    go_enter Tryz.func124, Tryz.ntmps124
    go_wp2_with (first | (go_at_call 150; refine (bool_cas_ft _ false _ c2 z2).mono ?_; rintro e w' ⟨rfl, rfl⟩; simp only [Bool.not_false, Bool.false_eq_true, if_false]) | (go_at_call 151; refine (i64_store _ _ _ _ d1 y1).mono ?_; rintro e w' ⟨rfl, rfl⟩))
    go_ret
    exact ⟨rfl, (((Kept.refl _ _).drew.set _ _ (by simp)).set _ _ (by simp)), h1.set 1 _⟩
  | true =>
    rw [ha] at c2
    have hr : raised m v = decide (m.peak < v) := by simp [raised, ha]
    have he : m.raise v = if m.peak < v then { m with peak := v } else m := by simp only [M.raise, hr, decide_eq_true_eq]; split; · rw [← ha]
                                                                               · rfl
    rw [hr, he]
    clear ha hr he
    have d1 := h.drew.cell 1 (v := .int .i64 m.peak) rfl
    have y1 := h.drew.free 1
    by_cases hlt : m.peak < v
    · rw [if_pos hlt]
      have hd : decide (m.peak < v) = true := by simpa using hlt
      rw [hd]
      have hle : ¬ v ≤ m.peak := by omega
      go_enter Tryz.func124, Tryz.ntmps124
      go_wp2_with (first | (go_at_call 150; refine (bool_cas_ft _ true _ c2 z2).mono ?_; rintro e w' ⟨rfl, rfl⟩; simp only [Bool.not_true, if_true]))
      refine wp_loop_once ?_
      go_wp2_with (first | (go_at_call 152; refine (i64_load _ _ _ d1).mono ?_; rintro e w' ⟨rfl, rfl⟩) | (go_at_call 153; refine (i64_cas _ _ _ _ d1 y1).mono ?_; rintro e w' ⟨rfl, rfl⟩))
      go_ret
      exact ⟨rfl, ((Kept.refl _ _).drew.set _ _ (by simp)), h.drew.set 1 _⟩
    · rw [if_neg hlt]
      have hd : decide (m.peak < v) = false := by simpa using hlt
      rw [hd]
      have hle : v ≤ m.peak := by omega
      go_enter Tryz.func124, Tryz.ntmps124
      go_wp2_with (first | (go_at_call 150; refine (bool_cas_ft _ true _ c2 z2).mono ?_; rintro e w' ⟨rfl, rfl⟩; simp only [Bool.not_true, if_true]))
      refine wp_loop_once ?_
      go_wp2_with (first | (go_at_call 152; refine (i64_load _ _ _ d1).mono ?_; rintro e w' ⟨rfl, rfl⟩))
      go_ret
      exact ⟨rfl, (Kept.refl _ _).drew, h.drew⟩
end MeterC
namespace MeterC
open Go Go.RowKit Hp Atom AtomC
structure R where
  at_ : Int
  code : Int
  session : Int
  number : Int
def R.cells (r : R) : List Value := [.int .i64 r.at_, .int .i64 r.code, .int .u32 r.session, .int .u32 r.number]
def R.val (r : R) : Value := .agg #[.int .i64 r.at_, .int .i64 r.code, .int .u32 r.session, .int .u32 r.number]
def R.zero : R := ⟨0, 0, 0, 0⟩
end MeterC
namespace MeterC
open Go Go.RowKit Hp Atom AtomC
theorem Has.ne {w : World} {b b' : Nat} {T T' : TypeId} {cs cs' : List Value} (h : Has w b T cs) (h' : Has w b' T' cs') (hne : T ≠ T') : b ≠ b' := by
  rintro rfl
  unfold Has at h h'
  rw [h] at h'
  simp at h'
  exact hne h'.2
def Noted (w : World) (p : Option Addr) : Option R → Prop
  | none => p = none
  | some r => ∃ b', p = some ⟨b', 0, none⟩ ∧ Has w b' 228 r.cells
theorem Noted.isRec {w : World} {p : Option Addr} {n : Option R} (h : Noted w p n) : IsRec w p := by
  cases n with
  | none => exact .inl h
  | some r => obtain ⟨b', e, h⟩ := h; exact .inr ⟨b', _, _, _, _, e, h⟩
theorem Noted.kept {w w' : World} {p : Option Addr} {n : Option R} {S : List Nat} (h : Noted w p n) (k : Kept S w w') (hs : ∀ i, i ∈ S → i < w.heap.size → ∃ T cs, T ≠ 228 ∧ Has w i T cs) : Noted w' p n := by
  cases n with
  | none => exact h
  | some r =>
    obtain ⟨b', e, h⟩ := h
    refine ⟨b', e, k.has h (fun hi => ?_)⟩
    obtain ⟨T, cs, hT, hc⟩ := hs b' hi h.lt
    exact Has.ne hc h hT rfl
theorem Noted.alloc {w : World} {p : Option Addr} {n : Option R} (h : Noted w p n) (o : Obj) : Noted (w.alloc o) p n :=
  h.kept ((Kept.refl [] w).alloc o) (by simp)
def IsN (w : World) (b : Nat) (m : M) (n : Option R) : Prop := IsM w b m ∧ Noted w m.last n
theorem IsN.kept {w w' : World} {b : Nat} {m : M} {n : Option R} {S : List Nat} (h : IsN w b m n) (k : Kept S w w') (hb : b ∉ S) (hs : ∀ i, i ∈ S → i < w.heap.size → ∃ T cs, T ≠ 228 ∧ Has w i T cs) : IsN w' b m n :=
  ⟨k.has h.1 hb, h.2.kept k hs⟩
theorem IsN.turn {w w' : World} {b : Nat} {m m' : M} {n : Option R} (h : IsN w b m n) (k : Kept [b] w w') (h' : IsM w' b m') (e : m'.last = m.last) : IsN w' b m' n :=
  ⟨h', e ▸ h.2.kept k (fun i hi hl => by simp at hi; subst hi; exact ⟨_, _, by decide, h.1⟩)⟩
def recOf (n : Option R) : R := n.getD R.zero
theorem note_call (b : Nat) (m : M) (n : Option R) (r : R) (w : World) (h : IsN w b m n) :
    Calls Tryz.prog 131 #[.pointer (some ⟨b, 0, none⟩), r.val] w fun e w' => e = .returned (.tuple #[(recOf n).val, .bool n.isSome]) ∧ Kept [b] w w' ∧ ∃ m', IsN w' b m' (some r) ∧ m'.total = m.total ∧ m'.peak = m.peak ∧ m'.any = m.any ∧ m'.flags = m.flags ∧ m'.on = m.on := by
  obtain ⟨hm, hn⟩ := h
  have hb := hm.lt
  unfold R.val
  go_enter Tryz.func131, Tryz.ntmps131
  go_wp2_with fail
  have hA : Has (w.alloc (.cells r.cells.toArray 228)) w.heap.size 228 r.cells := Has.new w _ r.cells
  refine (ptr_swap b 5 m.last (some ⟨w.heap.size, 0, none⟩) _ (((hm.alloc _).alloc _).cell 5 rfl) (((hm.alloc _).alloc _).free 5) ?_ ?_).mono ?_
  · exact (((hn.alloc _).alloc _).kept ((Kept.refl [b] _).set _ _ (by simp)) (fun i hi hl => by simp at hi; subst hi; exact ⟨_, _, by decide, (hm.alloc _).alloc _⟩)).isRec
  · exact .inr ⟨w.heap.size, _, _, _, _, rfl, hA.alloc _⟩
  rintro e w' ⟨rfl, rfl⟩
  have hK : Kept [b] w (((w.setCell ⟨b, 5, none⟩ (.pointer (some ⟨w.heap.size, 0, none⟩))).alloc (.cells r.cells.toArray 228))) := (((Kept.refl [b] _).set _ _ (by simp)).alloc _)
  have hI : ∀ o, IsN ((((w.setCell ⟨b, 5, none⟩ (.pointer (some ⟨w.heap.size, 0, none⟩))).alloc (.cells r.cells.toArray 228))).alloc o) b { m with last := some ⟨w.heap.size, 0, none⟩ } (some r) := fun o => by
    refine ⟨((hm.set 5 _).alloc _).alloc _, w.heap.size, rfl, Has.alloc ?_ _⟩
    have := Has.new (w.setCell ⟨b, 5, none⟩ (.pointer (some ⟨w.heap.size, 0, none⟩))) 228 r.cells
    simpa using this
  have K' := hid hK
  have I' := hid hI
  clear hK hI hA
  cases n with
  | none =>
    have hn' : m.last = none := hn
    rw [hn']
    clear hn hn'
    go_wp2_with fail
    refine bodyPost_ret (v := .tuple #[R.zero.val, .bool false]) ?_ rfl ⟨rfl, ?_, ?_⟩
    · simp [results, Tryz.results131, go_sem, R.val, R.zero]
    · exact K'.out.alloc _
    · exact ⟨_, I'.out _, rfl, rfl, rfl, rfl, rfl⟩
  | some q =>
    obtain ⟨b', e, h'⟩ := hn
    have hbb : ∀ i v, (w.setCell ⟨b, 5, none⟩ v).cell? ⟨b', i, none⟩ = w.cell? ⟨b', i, none⟩ := fun i v => World.cell?_setCell_other _ _ _ _ (fun h => by
      have h2 := Has.ne hm h' (by decide)
      exact h2 (congrArg Addr.block h))
    have c0 := h'.cell 0 (v := .int .i64 q.at_) rfl
    have c1 := h'.cell 1 (v := .int .i64 q.code) rfl
    have c2 := h'.cell 2 (v := .int .u32 q.session) rfl
    have c3 := h'.cell 3 (v := .int .u32 q.number) rfl
    have hb' := h'.lt
    rw [e]
    clear e h'
    go_wp2_with fail
    refine bodyPost_ret (v := .tuple #[q.val, .bool true]) ?_ rfl ⟨rfl, ?_, ?_⟩
    · simp [results, Tryz.results131, go_sem, R.val]
    · exact K'.out.alloc _
    · exact ⟨_, I'.out _, rfl, rfl, rfl, rfl, rfl⟩
end MeterC
namespace MeterC
open Go Go.RowKit Hp Atom AtomC
theorem note_log (b : Nat) (m : M) (n : Option R) (r : R) (w : World) (h : IsN w b m n) :
    Calls Tryz.prog 131 #[.pointer (some ⟨b, 0, none⟩), r.val] w fun e w' => e = .returned (.tuple #[(recOf n).val, .bool n.isSome]) ∧ Kept [b] w w' ∧ ∃ m', IsN w' b m' (some r) ∧ m'.total = m.total ∧ m'.peak = m.peak ∧ m'.any = m.any ∧ m'.flags = m.flags ∧ m'.on = m.on ∧ (∀ b', m'.last = some ⟨b', 0, none⟩ → w.heap.size ≤ b') := by
  obtain ⟨hm, hn⟩ := h
  have hb := hm.lt
  unfold R.val
  go_enter Tryz.func131, Tryz.ntmps131
  go_wp2_with fail
  have hA : Has (w.alloc (.cells r.cells.toArray 228)) w.heap.size 228 r.cells := Has.new w _ r.cells
  refine (ptr_swap b 5 m.last (some ⟨w.heap.size, 0, none⟩) _ (((hm.alloc _).alloc _).cell 5 rfl) (((hm.alloc _).alloc _).free 5) ?_ ?_).mono ?_
  · exact (((hn.alloc _).alloc _).kept ((Kept.refl [b] _).set _ _ (by simp)) (fun i hi hl => by simp at hi; subst hi; exact ⟨_, _, by decide, (hm.alloc _).alloc _⟩)).isRec
  · exact .inr ⟨w.heap.size, _, _, _, _, rfl, hA.alloc _⟩
  rintro e w' ⟨rfl, rfl⟩
  have hK : Kept [b] w (((w.setCell ⟨b, 5, none⟩ (.pointer (some ⟨w.heap.size, 0, none⟩))).alloc (.cells r.cells.toArray 228))) := (((Kept.refl [b] _).set _ _ (by simp)).alloc _)
  have hI : ∀ o, IsN ((((w.setCell ⟨b, 5, none⟩ (.pointer (some ⟨w.heap.size, 0, none⟩))).alloc (.cells r.cells.toArray 228))).alloc o) b { m with last := some ⟨w.heap.size, 0, none⟩ } (some r) := fun o => by
    refine ⟨((hm.set 5 _).alloc _).alloc _, w.heap.size, rfl, Has.alloc ?_ _⟩
    have := Has.new (w.setCell ⟨b, 5, none⟩ (.pointer (some ⟨w.heap.size, 0, none⟩))) 228 r.cells
    simpa using this
  have K' := hid hK
  have I' := hid hI
  clear hK hI hA
  cases n with
  | none =>
    have hn' : m.last = none := hn
    rw [hn']
    clear hn hn'
    go_wp2_with fail
    refine bodyPost_ret (v := .tuple #[R.zero.val, .bool false]) ?_ rfl ⟨rfl, ?_, ?_⟩
    · simp [results, Tryz.results131, go_sem, R.val, R.zero]
    · exact K'.out.alloc _
    · exact ⟨_, I'.out _, rfl, rfl, rfl, rfl, rfl, fun b' e => by cases e; exact Nat.le_refl _⟩
  | some q =>
    obtain ⟨b', e, h'⟩ := hn
    have hbb : ∀ i v, (w.setCell ⟨b, 5, none⟩ v).cell? ⟨b', i, none⟩ = w.cell? ⟨b', i, none⟩ := fun i v => World.cell?_setCell_other _ _ _ _ (fun h => by
      have h2 := Has.ne hm h' (by decide)
      exact h2 (congrArg Addr.block h))
    have c0 := h'.cell 0 (v := .int .i64 q.at_) rfl
    have c1 := h'.cell 1 (v := .int .i64 q.code) rfl
    have c2 := h'.cell 2 (v := .int .u32 q.session) rfl
    have c3 := h'.cell 3 (v := .int .u32 q.number) rfl
    have hb' := h'.lt
    rw [e]
    clear e h'
    go_wp2_with fail
    refine bodyPost_ret (v := .tuple #[q.val, .bool true]) ?_ rfl ⟨rfl, ?_, ?_⟩
    · simp [results, Tryz.results131, go_sem, R.val]
    · exact K'.out.alloc _
    · exact ⟨_, I'.out _, rfl, rfl, rfl, rfl, rfl, fun b' e => by cases e; exact Nat.le_refl _⟩

end MeterC
namespace DiagC
open Go Go.RowKit Hp Sl Ow Rw MeterC
def rdM (v : Value) : Option (DataW Unit × List MemPlace) :=
  match v with
  | .pointer none => some (.lit (.int .i64 (-1)), [])
  | .pointer (some ⟨b, 0, none⟩) => some (.lit (.int .i64 (b : Nat)), [])
  | _ => none
structure Cnt (G : Nat → Prop) (w : World) (mb al : Nat) (l : List (Lit × DataW Unit)) : Prop where
  own : w.ownsMap Tryz.prog 29 rdM mb l.length (.map l)
  keys : ∀ p ∈ l, ∃ c : Nat, c < 1000 ∧ p.1 = .int .i64 (c : Nat)
  apart : l.Pairwise (fun p q => p.1 ≠ q.1)
  vals : ∀ p ∈ l, ∃ b m, p.2 = .lit (.int .i64 (b : Nat)) ∧ IsM w b m ∧ G b ∧ b ≠ al
theorem below_len : ∀ (N : Nat) (l : List Nat), l.Pairwise (· ≠ ·) → (∀ x ∈ l, x < N) → l.length ≤ N := by
  intro N
  induction N with
  | zero => intro l _ h; cases l with
    | nil => simp
    | cons x l => exact absurd (h x (by simp)) (by omega)
  | succ N ih =>
    intro l hp h
    have h1 := ih (l.filter (· ≠ N)) (hp.filter _) (fun x hx => by
      obtain ⟨a, b⟩ := List.mem_filter.1 hx
      have := h x a; simp at b; omega)
    have h2 : ∀ l : List Nat, l.Pairwise (· ≠ ·) → l.length ≤ (l.filter (· ≠ N)).length + 1 := by
      intro l
      induction l with
      | nil => simp
      | cons x l ih2 =>
        intro hp
        obtain ⟨p1, p2⟩ := List.pairwise_cons.1 hp
        by_cases hx : x = N
        · subst hx
          have : l.filter (· ≠ x) = l := List.filter_eq_self.2 (fun y hy => by have := p1 y hy; simp; omega)
          rw [List.filter_cons]
          simp only [ne_eq, not_true_eq_false, decide_false, Bool.false_eq_true, if_false]
          simp only [ne_eq] at this
          rw [this]
          simp
        · rw [List.filter_cons]
          simp only [ne_eq, hx, not_false_eq_true, decide_true, if_true, List.length_cons]
          have := ih2 p2
          simp only [ne_eq] at this
          omega
    have := h2 l hp
    omega
theorem Cnt.few {G : Nat → Prop} {w : World} {mb al : Nat} {l : List (Lit × DataW Unit)} (h : Cnt G w mb al l) : l.length ≤ 1000 := by
  have hk := h.keys
  have hp := h.apart
  let f : Lit × DataW Unit → Nat := fun p => match p.1 with | .int _ c => c.toNat | _ => 0
  have := below_len 1000 (l.map f) (by
    rw [List.pairwise_map]
    refine hp.imp_of_mem ?_
    intro p q hpm hqm hne e
    obtain ⟨c, _, hc⟩ := hk p hpm
    obtain ⟨d, _, hd⟩ := hk q hqm
    apply hne
    rw [hc, hd]
    simp only [f, hc, hd, Int.toNat_natCast] at e
    rw [e]) (by
    intro x hx
    obtain ⟨p, hpm, rfl⟩ := List.mem_map.1 hx
    obtain ⟨c, hc1, hc⟩ := hk p hpm
    simp only [f, hc, Int.toNat_natCast]; exact hc1)
  simpa using this
theorem ownsMap_tight {w : World} {k : TypeId} {R : Value → Option (DataW Unit × List MemPlace)} {b n : Nat} {l : List (Lit × DataW Unit)} (h : w.ownsMap Tryz.prog k R b n (.map l)) : w.ownsMap Tryz.prog k R b l.length (.map l) := by
  obtain ⟨es, clock, hb, F, hs, hD⟩ := h
  refine ⟨es, clock, hb, F, ?_, hD⟩
  have e : l = (es.toList.map (WideElems.rg Tryz.prog k R)).foldr DataW.insert [] := by injection hD
  rw [e, length_sorted]; simp
theorem rdM_none : rdM (.pointer none) = some (.lit (.int .i64 (-1)), []) := rfl
theorem rdM_inv {v : Value} {d : DataW Unit} {ps : List MemPlace} (h : rdM v = some (d, ps)) : (v = .pointer none ∧ d = .lit (.int .i64 (-1))) ∨ ∃ b : Nat, v = .pointer (some ⟨b, 0, none⟩) ∧ d = .lit (.int .i64 (b : Nat)) := by
  unfold rdM at h
  split at h
  · cases h; exact .inl ⟨rfl, rfl⟩
  · cases h; exact .inr ⟨_, rfl, rfl⟩
  · cases h
theorem keyd : Go.Maps.Keyed Tryz.prog 29 := Go.Maps.int_keyed Tryz.underlying29
theorem key_of {c : Int} (h0 : 0 ≤ c) (h1 : c < 1000) : keyOf Tryz.prog 29 (.int .i64 c) = some (.int .i64 c) := Go.Maps.keyOf_int_mk Tryz.underlying29 (by simp [Lit.wf, IntKind.min, IntKind.max, IntKind.signed, IntKind.bits]; omega)
theorem Cnt.kept {G : Nat → Prop} {w w' : World} {mb al : Nat} {l : List (Lit × DataW Unit)} {S : List Nat} (h : Cnt G w mb al l) (k : Kept S w w') (h1 : mb ∉ S) (h2 : ∀ b, b ∈ S → b < w.heap.size → ¬ G b ∨ b = al ∨ ∃ T cs, Has w b T cs ∧ T ≠ 176) : Cnt G w' mb al l := by
  obtain ⟨es, clock, hb, F, hs, hD⟩ := h.own
  refine ⟨⟨es, clock, (k.block mb (Array.getElem?_eq_some_iff.1 hb).1 h1).trans hb, F, hs, hD⟩, h.keys, h.apart, fun p hp => ?_⟩
  obtain ⟨b, m, e, hm, hG, hne⟩ := h.vals p hp
  refine ⟨b, m, e, k.has hm (fun hbS => ?_), hG, hne⟩
  rcases h2 b hbS hm.lt with h | h | ⟨T, cs, hh, hT⟩
  · exact h hG
  · exact hne h
  · exact Ow.Has.ne hh hm hT rfl
theorem Cnt.turn {G : Nat → Prop} {w w' : World} {mb al b0 : Nat} {l : List (Lit × DataW Unit)} {m : M} (h : Cnt G w mb al l) (k : Kept [b0] w w') (h1 : mb ≠ b0) (hm : IsM w' b0 m) : Cnt G w' mb al l := by
  obtain ⟨es, clock, hb, F, hs, hD⟩ := h.own
  refine ⟨⟨es, clock, (k.block mb (Array.getElem?_eq_some_iff.1 hb).1 (by simpa using h1)).trans hb, F, hs, hD⟩, h.keys, h.apart, fun p hp => ?_⟩
  obtain ⟨b, m', e, hm', hG, hne⟩ := h.vals p hp
  by_cases hb0 : b = b0
  · subst hb0; exact ⟨b, m, e, hm, hG, hne⟩
  · exact ⟨b, m', e, k.has hm' (by simpa using hb0), hG, hne⟩
theorem Cnt.ne {G : Nat → Prop} {w : World} {mb al b : Nat} {l : List (Lit × DataW Unit)} {T : TypeId} {cs : List Value} (h : Cnt G w mb al l) (hb : Has w b T cs) : mb ≠ b := by
  rintro rfl
  obtain ⟨es, clock, hh, _⟩ := h.own
  unfold Has at hb
  rw [hh] at hb; cases hb
theorem Cnt.lt {G : Nat → Prop} {w : World} {mb al : Nat} {l : List (Lit × DataW Unit)} (h : Cnt G w mb al l) : mb < w.heap.size := h.own.lt
theorem zeroE (w : World) : (zeroValue 116).run Tryz.prog w = .ok (.pointer none) w := by kernel_rfl
theorem atKey_mem {l : List (Lit × DataW Unit)} {kl : Lit} {z d : DataW Unit} (h : (DataW.map l).atKey kl z = d) (hz : d ≠ z) : ∃ p ∈ l, p.2 = d := by
  unfold DataW.atKey at h
  simp only at h
  split at h
  · rename_i p hp; exact ⟨p, List.mem_of_find?_eq_some hp, h⟩
  · exact absurd h.symm hz
theorem Cnt.get {G : Nat → Prop} {w : World} {mb al : Nat} {l : List (Lit × DataW Unit)} (h : Cnt G w mb al l) {c : Int} (h0 : 0 ≤ c) (h1 : c < 1000) :
    ∃ v, (Instr.lookup 177 (.map (some mb)) (.int .i64 c) false).run Tryz.prog w = .ok v w ∧ (v = .pointer none ∨ ∃ b m, v = .pointer (some ⟨b, 0, none⟩) ∧ IsM w b m ∧ G b ∧ b ≠ al) := by
  obtain ⟨v, ps, hrun, hv⟩ := h.own.lookup keyd Tryz.underlying177 (z := .pointer none) (zeroE w) rdM_none (key_of h0 h1)
  refine ⟨v, hrun, ?_⟩
  rcases rdM_inv hv with ⟨rfl, _⟩ | ⟨b, rfl, hd⟩
  · exact .inl rfl
  · right
    obtain ⟨p, hp, he⟩ := atKey_mem hd (by intro e; injection e with e; injection e with e1 e2; omega)
    obtain ⟨b', m, e, hm, hG, hne⟩ := h.vals p hp
    rw [he] at e
    injection e with e
    injection e with e1 e2
    obtain rfl : b = b' := by omega
    exact ⟨b, m, rfl, hm, hG, hne⟩
theorem Cnt.put {G : Nat → Prop} {w w1 : World} {mb al b0 : Nat} {l : List (Lit × DataW Unit)} {m : M} {c : Nat} (h : Cnt G w mb al l) (hc : c < 1000) (hG : G b0) (hne : b0 ≠ al) (hm : IsM w b0 m)
    (hown : w1.ownsMap Tryz.prog 29 rdM mb (l.length + 1) ((DataW.map l).put (.int .i64 (c : Nat)) (.lit (.int .i64 (b0 : Nat))))) (hg : w.grownBy w1 (some mb)) : ∃ l', Cnt G w1 mb al l' := by
  have hk : Kept [mb] w w1 := ⟨hg.os, hg.tape, hg.output, hg.size, fun k hk hn => hg.block k hk (by simpa using hn)⟩
  have htidy : Go.Maps.Tidy (DataW.map l) := ⟨l, rfl, h.apart⟩
  have hcl : WideAt.IsKeyLit (Lit.int .i64 (c : Nat)) := by simp [WideAt.IsKeyLit]
  obtain ⟨l', e', hp'⟩ := htidy.put hcl (.lit (.int .i64 (b0 : Nat)))
  rw [e'] at hown
  have e2 : l' = DataW.insert (Lit.int .i64 (c : Nat), DataW.lit (.int .i64 (b0 : Nat))) (l.filter fun p => !p.1.sameKey (Lit.int .i64 (c : Nat))) := by
    unfold DataW.put at e'; injection e' with e'; exact e'.symm
  have hmem : ∀ p ∈ l', p = (Lit.int .i64 (c : Nat), DataW.lit (.int .i64 (b0 : Nat))) ∨ p ∈ l := by
    intro p hp
    rw [e2] at hp
    rcases ChangeMaps.mem_insert_iff.1 hp with h | h
    · exact .inl h
    · exact .inr (List.mem_filter.1 h).1
  refine ⟨l', ownsMap_tight hown, fun p hp => ?_, hp', fun p hp => ?_⟩
  · rcases hmem p hp with rfl | hp
    · exact ⟨c, hc, rfl⟩
    · exact h.keys p hp
  · rcases hmem p hp with rfl | hp
    · exact ⟨b0, m, rfl, hk.has hm (by have := h.ne hm; simp; exact fun e => this e.symm), hG, hne⟩
    · obtain ⟨b, m', e, hm', hG', hne'⟩ := h.vals p hp
      exact ⟨b, m', e, hk.has hm' (by have := h.ne hm'; simp; exact fun e => this e.symm), hG', hne'⟩
def IsLog (G : Nat → Prop) (w : World) (lg : Nat) : Prop :=
  ∃ al mb la v n xs l mm q, Has w lg 180 [.pointer (some ⟨al, 0, none⟩), .map (some mb), v] ∧ IsN w al mm q ∧ (∀ b', mm.last = some ⟨b', 0, none⟩ → G b') ∧ Cnt G w mb al l ∧ Rws w 228 4 la v n xs ∧ n ≤ 16 ∧ G lg ∧ G al ∧ G mb ∧ (∀ g, la = some g → G g)
theorem IsLog.kept {G : Nat → Prop} {w w' : World} {lg : Nat} {S : List Nat} (h : IsLog G w lg) (k : Kept S w w') (hS : ∀ b, b ∈ S → b < w.heap.size → ¬ G b) : IsLog G w' lg := by
  obtain ⟨al, mb, la, v, n, xs, l, mm, q, h1, h2, h3, h4, h5, h6, h7, h8, h9, h10⟩ := h
  have nn : ∀ b, b < w.heap.size → G b → b ∉ S := fun b hb hG hm => hS b hm hb hG
  refine ⟨al, mb, la, v, n, xs, l, mm, q, k.has h1 (nn _ h1.lt h7), ⟨k.has h2.1 (nn _ h2.1.lt h8), ?_⟩, h3, h4.kept k (nn _ h4.lt h9) (fun b hb hl => .inl (hS b hb hl)), h5.kept k (fun g hg => nn g (h5.lt hg) (h10 g hg)), h6, h7, h8, h9, h10⟩
  cases q with
  | none => exact h2.2
  | some r =>
    obtain ⟨b', e, hh⟩ := h2.2
    exact ⟨b', e, k.has hh (nn _ hh.lt (h3 b' e))⟩
theorem IsLog.mono {G G' : Nat → Prop} {w : World} {lg : Nat} (h : IsLog G w lg) (hG : ∀ b, b < w.heap.size → G b → G' b) : IsLog G' w lg := by
  obtain ⟨al, mb, la, v, n, xs, l, mm, q, h1, h2, h3, h4, h5, h6, h7, h8, h9, h10⟩ := h
  refine ⟨al, mb, la, v, n, xs, l, mm, q, h1, h2, fun b' e => ?_, ⟨h4.own, h4.keys, h4.apart, fun p hp => ?_⟩, h5, h6, hG _ h1.lt h7, hG _ h2.1.lt h8, hG _ h4.lt h9, fun g hg => hG g (h5.lt hg) (h10 g hg)⟩
  · have hh := h2.2
    cases q with
    | none => rw [show mm.last = none from hh] at e; cases e
    | some r =>
      obtain ⟨b2, e2, h2'⟩ := hh
      rw [e2] at e; cases e
      exact hG _ h2'.lt (h3 _ e2)
  · obtain ⟨b, m, e, hm, hGb, hne⟩ := h4.vals p hp
    exact ⟨b, m, e, hm, hG b hm.lt hGb, hne⟩
end DiagC
end Go.Proofs.YtinaliblnihpbaaGreat

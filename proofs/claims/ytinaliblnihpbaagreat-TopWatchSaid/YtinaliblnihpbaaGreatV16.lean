/- The walks and the plain laws of BuW, BagA, BagC, BagT. -/
import Derived.Test.YtinaliblnihpbaaGreatV15
import Derived.Test.YtinaliblnihpbaaGreatV06
import Derived.Test.YtinaliblnihpbaaGreatV05
import Derived.Test.YtinaliblnihpbaaGreatV04
import Derived.Deep.RegionLaw
import Derived.Deep.RegionHeld3
import Derived.Deep.Cut
import Derived.Test.YtinaliblnihpbaaGreatV10
set_option linter.unusedVariables false
set_option linter.unusedSimpArgs false
open Go.Lib (hid)
namespace Go.Proofs.YtinaliblnihpbaaGreat
namespace BuW
open Go Go.RowKit Gf SlC CrcW SlM Hp Sl Ow DogC EncW ParW Ap Bu
set_option maxRecDepth 100000 in
theorem tab_at (i : Nat) (h : i < (⟨#[0, 1, 2, 2, 3, 3, 3, 3, 4, 4, 4, 4, 4, 4, 4, 4, 5, 5, 5, 5, 5, 5, 5, 5, 5, 5, 5, 5, 5, 5, 5, 5, 6, 6, 6, 6, 6, 6, 6, 6, 6, 6, 6, 6, 6, 6, 6, 6, 6, 6, 6, 6, 6, 6, 6, 6, 6, 6, 6, 6, 6, 6, 6, 6, 7, 7, 7, 7, 7, 7, 7, 7, 7, 7, 7, 7, 7, 7, 7, 7, 7, 7, 7, 7, 7, 7, 7, 7, 7, 7, 7, 7, 7, 7, 7, 7, 7, 7, 7, 7, 7, 7, 7, 7, 7, 7, 7, 7, 7, 7, 7, 7, 7, 7, 7, 7, 7, 7, 7, 7, 7, 7, 7, 7, 7, 7, 7, 7, 8, 8, 8, 8, 8, 8, 8, 8, 8, 8, 8, 8, 8, 8, 8, 8, 8, 8, 8, 8, 8, 8, 8, 8, 8, 8, 8, 8, 8, 8, 8, 8, 8, 8, 8, 8, 8, 8, 8, 8, 8, 8, 8, 8, 8, 8, 8, 8, 8, 8, 8, 8, 8, 8, 8, 8, 8, 8, 8, 8, 8, 8, 8, 8, 8, 8, 8, 8, 8, 8, 8, 8, 8, 8, 8, 8, 8, 8, 8, 8, 8, 8, 8, 8, 8, 8, 8, 8, 8, 8, 8, 8, 8, 8, 8, 8, 8, 8, 8, 8, 8, 8, 8, 8, 8, 8, 8, 8, 8, 8, 8, 8, 8, 8, 8, 8, 8, 8, 8, 8, 8, 8, 8, 8, 8, 8, 8, 8]⟩ : ByteArray).size) : ((⟨#[0, 1, 2, 2, 3, 3, 3, 3, 4, 4, 4, 4, 4, 4, 4, 4, 5, 5, 5, 5, 5, 5, 5, 5, 5, 5, 5, 5, 5, 5, 5, 5, 6, 6, 6, 6, 6, 6, 6, 6, 6, 6, 6, 6, 6, 6, 6, 6, 6, 6, 6, 6, 6, 6, 6, 6, 6, 6, 6, 6, 6, 6, 6, 6, 7, 7, 7, 7, 7, 7, 7, 7, 7, 7, 7, 7, 7, 7, 7, 7, 7, 7, 7, 7, 7, 7, 7, 7, 7, 7, 7, 7, 7, 7, 7, 7, 7, 7, 7, 7, 7, 7, 7, 7, 7, 7, 7, 7, 7, 7, 7, 7, 7, 7, 7, 7, 7, 7, 7, 7, 7, 7, 7, 7, 7, 7, 7, 7, 8, 8, 8, 8, 8, 8, 8, 8, 8, 8, 8, 8, 8, 8, 8, 8, 8, 8, 8, 8, 8, 8, 8, 8, 8, 8, 8, 8, 8, 8, 8, 8, 8, 8, 8, 8, 8, 8, 8, 8, 8, 8, 8, 8, 8, 8, 8, 8, 8, 8, 8, 8, 8, 8, 8, 8, 8, 8, 8, 8, 8, 8, 8, 8, 8, 8, 8, 8, 8, 8, 8, 8, 8, 8, 8, 8, 8, 8, 8, 8, 8, 8, 8, 8, 8, 8, 8, 8, 8, 8, 8, 8, 8, 8, 8, 8, 8, 8, 8, 8, 8, 8, 8, 8, 8, 8, 8, 8, 8, 8, 8, 8, 8, 8, 8, 8, 8, 8, 8, 8, 8, 8, 8, 8, 8, 8, 8, 8]⟩ : ByteArray)[i]'h).toNat = len i := by
  have q : ∀ j : Fin 256, ((⟨#[0, 1, 2, 2, 3, 3, 3, 3, 4, 4, 4, 4, 4, 4, 4, 4, 5, 5, 5, 5, 5, 5, 5, 5, 5, 5, 5, 5, 5, 5, 5, 5, 6, 6, 6, 6, 6, 6, 6, 6, 6, 6, 6, 6, 6, 6, 6, 6, 6, 6, 6, 6, 6, 6, 6, 6, 6, 6, 6, 6, 6, 6, 6, 6, 7, 7, 7, 7, 7, 7, 7, 7, 7, 7, 7, 7, 7, 7, 7, 7, 7, 7, 7, 7, 7, 7, 7, 7, 7, 7, 7, 7, 7, 7, 7, 7, 7, 7, 7, 7, 7, 7, 7, 7, 7, 7, 7, 7, 7, 7, 7, 7, 7, 7, 7, 7, 7, 7, 7, 7, 7, 7, 7, 7, 7, 7, 7, 7, 8, 8, 8, 8, 8, 8, 8, 8, 8, 8, 8, 8, 8, 8, 8, 8, 8, 8, 8, 8, 8, 8, 8, 8, 8, 8, 8, 8, 8, 8, 8, 8, 8, 8, 8, 8, 8, 8, 8, 8, 8, 8, 8, 8, 8, 8, 8, 8, 8, 8, 8, 8, 8, 8, 8, 8, 8, 8, 8, 8, 8, 8, 8, 8, 8, 8, 8, 8, 8, 8, 8, 8, 8, 8, 8, 8, 8, 8, 8, 8, 8, 8, 8, 8, 8, 8, 8, 8, 8, 8, 8, 8, 8, 8, 8, 8, 8, 8, 8, 8, 8, 8, 8, 8, 8, 8, 8, 8, 8, 8, 8, 8, 8, 8, 8, 8, 8, 8, 8, 8, 8, 8, 8, 8, 8, 8, 8, 8]⟩ : ByteArray)[j.val]'(by have := j.isLt; exact this)).toNat = len j.val := by decide +kernel
  exact q ⟨i, h⟩
set_option maxRecDepth 100000 in
theorem len32_call (x : Nat) (hx : x < 2 ^ 32) (w : World) : Calls Tryz.prog 102 #[.int .u32 (x : Int)] w fun e w' => e = .returned (.int .i64 (len x : Nat)) ∧ w' = w := by
  by_cases h1 : x ≥ 65536
  · have e1 : decide ((x : Int) ≥ 65536) = true := by simp; omega
    by_cases h2 : x / 65536 ≥ 256
    · have e2 : decide ((x : Int) / 65536 ≥ 256) = true := by simp; omega
      have b : len (x / 2 ^ 24) ≤ 8 := len_le (by omega)
      have EL := hid (show wrap64 (24 + wrap64 ((len (x / 65536 / 256 % 256) : Nat) : Int)) = ((len x : Nat) : Int) by
        rw [show x / 65536 / 256 % 256 = x / 2 ^ 24 by omega, wrap64_id (x := ((len (x / 2 ^ 24) : Nat) : Int)) (by omega) (by omega), wrap64_id (by omega) (by omega), len_shift (a := x) (s := 24) (by omega)]; omega)
      clear h1 h2 hx b
      go_enter Tryz.func102, Tryz.ntmps102
      go_wp2_with fail
      simp only [tab_at, EL.out]
      go_ret
      exact ⟨rfl, rfl⟩
    · have e2 : decide ((x : Int) / 65536 ≥ 256) = false := by simp; omega
      have b : len (x / 2 ^ 16) ≤ 8 := len_le (by omega)
      have EL := hid (show wrap64 (16 + wrap64 ((len (x / 65536 % 256) : Nat) : Int)) = ((len x : Nat) : Int) by
        rw [show x / 65536 % 256 = x / 2 ^ 16 by omega, wrap64_id (x := ((len (x / 2 ^ 16) : Nat) : Int)) (by omega) (by omega), wrap64_id (by omega) (by omega), len_shift (a := x) (s := 16) (by omega)]; omega)
      clear h1 h2 hx b
      go_enter Tryz.func102, Tryz.ntmps102
      go_wp2_with fail
      simp only [tab_at, EL.out]
      go_ret
      exact ⟨rfl, rfl⟩
  · have e1 : decide ((x : Int) ≥ 65536) = false := by simp; omega
    by_cases h2 : x ≥ 256
    · have e2 : decide ((x : Int) ≥ 256) = true := by simp; omega
      have b : len (x / 2 ^ 8) ≤ 8 := len_le (by omega)
      have EL := hid (show wrap64 (8 + wrap64 ((len (x / 256 % 256) : Nat) : Int)) = ((len x : Nat) : Int) by
        rw [show x / 256 % 256 = x / 2 ^ 8 by omega, wrap64_id (x := ((len (x / 2 ^ 8) : Nat) : Int)) (by omega) (by omega), wrap64_id (by omega) (by omega), len_shift (a := x) (s := 8) (by omega)]; omega)
      clear h1 h2 hx b
      go_enter Tryz.func102, Tryz.ntmps102
      go_wp2_with fail
      simp only [tab_at, EL.out]
      go_ret
      exact ⟨rfl, rfl⟩
    · have e2 : decide ((x : Int) ≥ 256) = false := by simp; omega
      have b : len x ≤ 8 := len_le (by omega)
      have EL := hid (show wrap64 (wrap64 ((len (x % 256) : Nat) : Int)) = ((len x : Nat) : Int) by
        rw [show x % 256 = x by omega, wrap64_id (x := ((len x : Nat) : Int)) (by omega) (by omega), wrap64_id (by omega) (by omega)])
      clear h1 h2 hx b
      go_enter Tryz.func102, Tryz.ntmps102
      go_wp2_with fail
      simp only [tab_at, EL.out]
      go_ret
      exact ⟨rfl, rfl⟩
theorem NumW_lt {w : World} {b off : Nat} {v : Value} (h : w.cell? ⟨b, off, none⟩ = some v) : b < w.heap.size := World.block_lt_of_cell? _ _ h
theorem keepB {R b i j : Nat} {u u' : Value} {w : World} (h : w.cell? ⟨b, j, none⟩ = some u) (hne : b ≠ R) : (w.setCell ⟨R, i, none⟩ u').cell? ⟨b, j, none⟩ = some u :=
  (((Kept.refl [R] w).set ⟨R, i, none⟩ u' (by simp)).cell (p := ⟨b, j, none⟩) (World.block_lt_of_cell? _ _ h) (by simpa using hne)).trans h
theorem xl_getD : ∀ (a b : List Int) (j : Nat), a.length = b.length → j < a.length → (xl a b).getD j 0 = xb (a.getD j 0) (b.getD j 0) := by
  intro a
  induction a with
  | nil => intro b j _ h; simp at h
  | cons x a ih =>
    intro b j hl hj
    cases b with
    | nil => simp at hl
    | cons y b =>
      cases j with
      | zero => rfl
      | succ j => exact ih b j (by simpa using hl) (by simpa using hj)
theorem xl_of {a b o : List Int} (hl : a.length = b.length) (ho : o.length = a.length) (h : ∀ j, j < a.length → o.getD j 0 = xb (a.getD j 0) (b.getD j 0)) : o = xl a b := by
  apply List.ext_getElem?
  intro j
  rcases Nat.lt_or_ge j a.length with hj | hj
  · have h1 := h j hj
    rw [← xl_getD a b j hl hj] at h1
    have l2 := xl_length a b hl
    rw [List.getD_eq_getElem?_getD, List.getD_eq_getElem?_getD, List.getElem?_eq_getElem (by omega), List.getElem?_eq_getElem (by omega)] at h1
    rw [List.getElem?_eq_getElem (by omega), List.getElem?_eq_getElem (by omega)]
    simpa using h1
  · rw [List.getElem?_eq_none (by omega), List.getElem?_eq_none (by rw [xl_length a b hl]; omega)]
def TnRel (W : World) (g : Nat) (a b : List Int) (i : Value) (w : World) : Prop :=
  ∃ (k : Nat) (o : List Int), k ≤ a.length ∧ i = .int .i64 (k : Nat) ∧ Kept [] W w ∧ o.length = a.length ∧ Own w g (.slice (some ⟨g, 0, none⟩) a.length a.length) o ∧ ∀ j, j < k → o.getD j 0 = xb (a.getD j 0) (b.getD j 0)
set_option maxRecDepth 100000 in
set_option maxHeartbeats 1600000 in
theorem turn_call (va vb : Value) (a b : List Int) (w : World) (ha : Bytes w va a) (hb : Bytes w vb b) (hl : a.length = b.length) (hs : a.length ≤ 1000000) :
    Calls Tryz.prog 74 #[va, vb] w fun e w' => ∃ v, e = .returned (.tuple #[v, .int .i64 0]) ∧ Kept [] w w' ∧ Made w w' v (xl a b) := by
  obtain ⟨pa, ca, rfl, hca⟩ := sl_shape ha
  obtain ⟨pb, cb, rfl, hcb⟩ := sl_shape hb
  have HA := hid ha
  have HB := hid hb
  have MK := fun W => SlC.run_makeN b.length (by omega) W
  have e1 : ((a.length : Int) != (b.length : Int)) = false := by simp [hl]
  clear ha hb
  go_enter Tryz.func74, Tryz.ntmps74
  go_wp2_with fail
  have HLL := hid hl
  rw [← hl] at HB MK hcb e1 ⊢
  clear hl
  go_loopw [18] (TnRel w w.heap.size a b) (fun i _ => a.length - (intOf i).toNat)
  case atStart =>
    refine ⟨0, List.replicate a.length 0, by omega, rfl, (Kept.refl [] w).alloc _, by simp, ⟨a.length, U8 (List.replicate a.length 0), by simp, Has.new w 5 (U8 (List.replicate a.length 0)), by simp, by unfold maxLen; omega, by simp [U8], by simp [U8]⟩, fun j hj => by omega⟩
  case round =>
    obtain ⟨k, o, hk, rfl, kk, hol, how, hpre⟩ := hrel
    have KK := hid kk
    have OW := hid how
    have OL := hid hol
    have PR := hid hpre
    rcases Nat.lt_or_ge k a.length with hkn | hkn
    · obtain ⟨b1, o1, rfl, hc1⟩ := SlC.Bytes.at_ HA.out k hkn
      obtain ⟨b2, o2, rfl, hc2⟩ := SlC.Bytes.at_ (p := pb) (c := cb) (l := b) (by have := HB.out; rwa [HLL.out] at this) k (by rw [← HLL.out]; exact hkn)
      have hb1 := NumW_lt hc1
      have hb2 := NumW_lt hc2
      have n1 : b1 ≠ w.heap.size := by omega
      have n2 : b2 ≠ w.heap.size := by omega
      have hc1 := (kk.cell (p := ⟨b1, o1 + k, none⟩) hb1 (by simp)).trans hc1
      have hc2 := (kk.cell (p := ⟨b2, o2 + k, none⟩) hb2 (by simp)).trans hc2
      have hc3 := SlC.Own.cellAt how k (by omega)
      have z3 := SlC.Own.free how k
      have hd3 : wr.drew.cell? ⟨w.heap.size, k, none⟩ = some (.int .u8 (o.getD k 0)) := hc3
      have zd3 : wr.drew.frozen? ⟨w.heap.size, k, none⟩ = false := z3
      have hk2 : k < ca := by omega
      have hk3 : k < cb := by omega
      have hk4 : (k : Int) < (a.length : Int) := by omega
      have hk5 : (0 : Int) ≤ (k : Int) := by omega
      obtain ⟨av, hav⟩ : ∃ av, av = a.getD k 0 := ⟨_, rfl⟩
      obtain ⟨bv, hbv⟩ : ∃ bv, bv = b.getD k 0 := ⟨_, rfl⟩
      obtain ⟨ov, hov⟩ : ∃ ov, ov = o.getD k 0 := ⟨_, rfl⟩
      rw [← hav] at hc1
      rw [← hbv] at hc2
      rw [← hov] at hc3 hd3
      have AV := hid hav
      have BV := hid hbv
      have KB := hid (show (wr.setCell ⟨w.heap.size, k, none⟩ (.int .u8 (bits .xor .u8 av bv))).drew.cell? ⟨b1, o1 + k, none⟩ = some (.int .u8 av) ∧ (wr.setCell ⟨w.heap.size, k, none⟩ (.int .u8 (bits .xor .u8 av bv))).drew.cell? ⟨b2, o2 + k, none⟩ = some (.int .u8 bv) from ⟨keepB hc1 n1, keepB hc2 n2⟩)
      clear kk hol how hpre hb1 hb2 hav hbv hov n1 n2
      go_wp2_with fail
      have dd : wr.drew.cell? ⟨b1, o1 + k, none⟩ = some (.int .u8 av) ∧ wr.drew.cell? ⟨b2, o2 + k, none⟩ = some (.int .u8 bv) := ⟨hc1, hc2⟩
      go_region_held3 (fun w' => w'.cell? ⟨b1, o1 + k, none⟩ = some (.int .u8 av) ∧ w'.cell? ⟨b2, o2 + k, none⟩ = some (.int .u8 bv)) (first | with_reducible assumption | with_reducible exact KB.out) (fail)
      clear dd hc1 hc2 hc3 z3 hd3 zd3
      go_wp2_with fail
      have ks := ((Kept.refl [w.heap.size] wr).set ⟨w.heap.size, k, none⟩ (.int .u8 (bits .xor .u8 av bv)) (by simp)).drew
      refine ⟨⟨k + 1, o.set k (xb av bv), by omega, by go_num, KK.out.fresh ks (fun i hi hl => by simp at hi; subst hi; exact absurd hl (Nat.lt_irrefl _)), by rw [List.length_set]; exact OL.out, (SlC.Own.set OW.out k (xb av bv) (by rw [OL.out]; exact hkn)).kept ((Kept.refl [] _).drew) (by simp), fun j hj => ?_⟩, by simp [intOf]; omega⟩
      rw [List.getD_eq_getElem?_getD, List.getElem?_set]
      by_cases hjk : k = j
      · subst hjk
        rw [if_pos rfl, if_pos (by rw [OL.out]; exact hkn), AV.out, BV.out]; rfl
      · rw [if_neg hjk, ← List.getD_eq_getElem?_getD]
        exact PR.out j (by omega)
    · obtain rfl : k = a.length := by omega
      have e9 : decide (a.length < b.length) = false := by simp; rw [HLL.out]; exact Nat.le_refl _
      clear kk hol how hpre
      go_wp2_with fail
      go_ret2
      have eo := xl_of HLL.out OL.out PR.out
      have ow := OW.out
      rw [eo] at ow
      exact ⟨_, rfl, KK.out, .inr ⟨_, ow⟩, fun i hi => by cases hi; exact Nat.le_refl _⟩
def badBurst (n : Nat) (at' : Int) (w : Nat) : Prop := w = 0 ∨ at' < 0 ∨ at' > 8 * (n : Int) - (len w : Nat)
set_option maxRecDepth 100000 in
theorem make_bad (n : Nat) (at' : Int) (x : Nat) (hx : x < 2 ^ 32) (hn : n ≤ 65536) (hb : badBurst n at' x) (w : World) :
    Calls Tryz.prog 73 #[.int .i64 (n : Int), .int .i64 at', .int .u32 (x : Int)] w fun e w' => e = .returned (.tuple #[.slice none 0 0, .int .i64 30]) ∧ w' = w := by
  have a1 : decide ((n : Int) < 0) = false := by first | (simp; done) | (simp; omega)
  have a2 : decide ((n : Int) > 65536) = false := by simp; omega
  have L1 := hid (len32_call x hx w)
  have hl : len x ≤ 32 := len_le hx
  have a3 : wrap64 (8 * (n : Int)) = 8 * (n : Int) := wrap64_id (by omega) (by omega)
  have a4 : wrap64 (8 * (n : Int) - ((len x : Nat) : Int)) = 8 * (n : Int) - ((len x : Nat) : Int) := wrap64_id (by omega) (by omega)
  by_cases h0 : x = 0
  · have b1 : ((x : Int) == 0) = true := by simp [h0]
    clear h0 hb hl hx hn
    go_enter Tryz.func73, Tryz.ntmps73
    go_wp2_with fail
    go_ret2
    exact ⟨rfl, rfl⟩
  · have b1 : ((x : Int) == 0) = false := by first | (simp; done) | (simp; omega) | (simp [h0]; done) | (simp [hx0]; done)
    by_cases h1 : at' < 0
    · have b2 : decide (at' < 0) = true := by simpa using h1
      clear h0 hb hl hx hn h1
      go_enter Tryz.func73, Tryz.ntmps73
      go_wp2_with fail
      go_ret2
      exact ⟨rfl, rfl⟩
    · have b2 : decide (at' < 0) = false := by simpa using h1
      have b3 : decide (at' > 8 * (n : Int) - ((len x : Nat) : Int)) = true := by rcases hb with h | h | h; exact absurd h h0; exact absurd h h1; simpa using h
      clear h0 hb hl hx hn h1
      go_enter Tryz.func73, Tryz.ntmps73
      go_wp2_with fail
      refine L1.out.mono ?_
      rintro e w2 ⟨rfl, rfl⟩
      go_wp2_with fail
      go_ret2
      exact ⟨rfl, rfl⟩
theorem shr_form (r : Nat) (hr : r < 8) : shr .u8 128 (r : Int) = (128 : Int) / 2 ^ min r 8 := by
  have : r = 0 ∨ r = 1 ∨ r = 2 ∨ r = 3 ∨ r = 4 ∨ r = 5 ∨ r = 6 ∨ r = 7 := by omega
  rcases this with rfl | rfl | rfl | rfl | rfl | rfl | rfl | rfl <;> rfl
def MkRel (W : World) (g n at' x : Nat) (i : Value) (w : World) : Prop :=
  ∃ (k : Nat) (o : List Int), k ≤ len x ∧ i = .int .i64 (k : Nat) ∧ Kept [] W w ∧ o.length = n ∧ Own w g (.slice (some ⟨g, 0, none⟩) n n) o ∧ mkl x (len x) at' (len x - k) k o = bst n at' x
set_option maxRecDepth 100000 in
set_option maxHeartbeats 1600000 in
theorem make_call (n at' x : Nat) (hx : x < 2 ^ 32) (hn : n ≤ 65536) (hx0 : x ≠ 0) (hb : at' + len x ≤ 8 * n) (w : World) :
    Calls Tryz.prog 73 #[.int .i64 (n : Int), .int .i64 (at' : Int), .int .u32 (x : Int)] w fun e w' => ∃ v, e = .returned (.tuple #[v, .int .i64 0]) ∧ Kept [] w w' ∧ Made w w' v (bst n at' x) := by
  have a1 : decide ((n : Int) < 0) = false := by first | (simp; done) | (simp; omega)
  have a2 : decide ((n : Int) > 65536) = false := by simp; omega
  have L1 := hid (fun w => len32_call x hx w)
  have hl : len x ≤ 32 := len_le hx
  have a3 : wrap64 (8 * (n : Int)) = 8 * (n : Int) := wrap64_id (by omega) (by omega)
  have a4 : wrap64 (8 * (n : Int) - ((len x : Nat) : Int)) = 8 * (n : Int) - ((len x : Nat) : Int) := wrap64_id (by omega) (by omega)
  have b1 : ((x : Int) == 0) = false := by first | (simp; done) | (simp; omega) | (simp [h0]; done) | (simp [hx0]; done)
  have b2 : decide ((at' : Int) < 0) = false := by first | (simp; done) | (simp; omega)
  have b3 : decide ((at' : Int) > 8 * (n : Int) - ((len x : Nat) : Int)) = false := by first | (simp; done) | (simp; omega)
  have MK := fun W => SlC.run_makeN n (by omega) W
  have HX := hid (And.intro hx (And.intro hn (And.intro hb hl)))
  clear hx hn hx0 hb hl
  go_enter Tryz.func73, Tryz.ntmps73
  go_wp2_with fail
  refine (L1.out w).mono ?_
  rintro e wz ⟨rfl, rfl⟩
  go_wp2_with fail
  refine (L1.out _).mono ?_
  rintro e w3 ⟨rfl, rfl⟩
  go_wp2_with fail
  go_loopw [37] (MkRel wz wz.heap.size n at' x) (fun i _ => len x - (intOf i).toNat)
  case atStart =>
    refine ⟨0, List.replicate n 0, by omega, rfl, (Kept.refl [] wz).alloc _, by simp, ⟨n, U8 (List.replicate n 0), by simp, Has.new wz 5 (U8 (List.replicate n 0)), by simp, by have := HX.out.2.1; unfold maxLen; omega, by simp [U8], by simp [U8]⟩, rfl⟩
  case round =>
    obtain ⟨k, o, hk, rfl, kk, hol, how, hmk⟩ := hrel
    have KK := hid kk
    have OW := hid how
    have OL := hid hol
    have PR := hid hmk
    rcases Nat.lt_or_ge k (len x) with hkn | hkn
    · have hs := HX.out
      have hk1 : k + 1 ≤ len x := by omega
      have hdec : len x - (k + 1) < len x - k := by omega
      obtain ⟨j, hj⟩ : ∃ j, j = at' + k := ⟨_, rfl⟩
      obtain ⟨q, hqe⟩ : ∃ q, q = j / 8 := ⟨_, rfl⟩
      obtain ⟨r, hre⟩ : ∃ r, r = j % 8 := ⟨_, rfl⟩
      have hq : q < n := by omega
      have hr : r < 8 := by omega
      have q1 : (j : Int) / 8 = (q : Int) := by omega
      have q2 : (j : Int) % 8 = (r : Int) := by omega
      have q3 : (q : Int) < (n : Int) := by omega
      have q4 : (0 : Int) ≤ (q : Int) := by omega
      have hmk2 : mkl x (len x) at' (len x - (k + 1)) (k + 1) (if x.testBit (len x - 1 - k) then orAt o j else o) = bst n at' x := by
        rw [← hmk, show len x - k = (len x - (k + 1)) + 1 by omega, hj]; rfl
      have cb := hid (show (bits .and .u32 ((x : Int) / 2 ^ min (len x - 1 - k) 32) 1 != 0) = x.testBit (len x - 1 - k) by
        rw [Nat.min_eq_left (by omega), show (x : Int) / 2 ^ (len x - 1 - k) = ((x / 2 ^ (len x - 1 - k) : Nat) : Int) by norm_cast]
        have := u32_and_nat (x / 2 ^ (len x - 1 - k)) 1 (by have := Nat.div_le_self x (2 ^ (len x - 1 - k)); omega) (by decide)
        rw [show (1 : Int) = ((1 : Nat) : Int) from rfl, this, Nat.and_one_is_mod, (halves x (len x - 1 - k)).1]
        cases x.testBit (len x - 1 - k) <;> rfl)
      have hc3 := SlC.Own.cellAt how q (by omega)
      have z3 := SlC.Own.free how q
      have e1 : decide ((k : Int) < ((len x : Nat) : Int)) = true := by simp; omega
      have W1 := hid (show wrap64 (((len x : Nat) : Int) - 1) = ((len x - 1 : Nat) : Int) by rw [wrap64_id (by omega) (by omega)]; omega)
      have W2 := hid (show wrap64 (((len x - 1 : Nat) : Int) - (k : Int)) = ((len x - 1 - k : Nat) : Int) by rw [wrap64_id (by omega) (by omega)]; omega)
      have W3 := hid (show wrap64 ((k : Int) + 1) = ((k + 1 : Nat) : Int) by rw [wrap64_id (by omega) (by omega)]; omega)
      have AK2 := hid (show IntKind.i64.wrap ((at' : Int) + (k : Int)) = (j : Int) from (i64_id (by omega) (by omega)).trans (by omega))
      have T1 := hid (show ((j : Int).tdiv 8) = (q : Int) by rw [hqe]; rfl)
      have T2 := hid (show ((j : Int).tmod 8) = (r : Int) by rw [hre]; rfl)
      have T3 := hid (show IntKind.i64.wrap (q : Int) = (q : Int) from i64_id (by omega) (by omega))
      have T4 := hid (show IntKind.i64.wrap (r : Int) = (r : Int) from i64_id (by omega) (by omega))
      have AK := hid (show wrap64 ((at' : Int) + (k : Int)) = (j : Int) by rw [wrap64_id (by omega) (by omega)]; omega)
      have hd3 : wr.drew.cell? ⟨wz.heap.size, q, none⟩ = some (.int .u8 (o.getD q 0)) := hc3
      have zd3 : wr.drew.frozen? ⟨wz.heap.size, q, none⟩ = false := z3
      have HD := hid (And.intro hk1 hdec)
      have HQ := hid (And.intro hqe (And.intro hre (And.intro hj (And.intro hq hr))))
      have cb := cb.out
      have w1 := W1.out
      have w2 := W2.out
      clear hqe hre hj hk1 hdec hs kk hol how hmk hk
      by_cases ct : x.testBit (len x - 1 - k) = true
      · rw [ct] at cb
        rw [if_pos ct] at hmk2
        have MK2 := hid hmk2
        have ak := AK.out
        clear ct hmk2
        have ak2 := AK2.out
        have t1 := T1.out
        have t2 := T2.out
        have t3 := T3.out
        have SV := hid (shr_form r hr)
        clear hr T4
        go_wp2_with fail
        have dd : wr.drew.cell? ⟨wz.heap.size, q, none⟩ = some (.int .u8 (o.getD q 0)) := hd3
        obtain ⟨ov, hov⟩ : ∃ ov, ov = o.getD q 0 := ⟨_, rfl⟩
        rw [← hov] at dd hc3 hd3
        have OV := hid hov
        clear hov
        clear a1 a2 a3 a4 b1 b2 b3 MK e1 cb w1 w2 ak q1 q2
        refine wp_region_held_drew (S := fun _ => True) (by kernel_rfl) trivial (fun hHeld => ?_)
        refine wpAnyH_take (i := 0) (oi := ⟨some 48, .move (.tmp 8), 36, "burst.go:62", #[], none⟩) (v := ?_) rfl (by kernel_rfl) (by kernel_rfl) (by kernel_rfl) (fun _ _ _ h => h) (Or.inl ⟨by rfl, ?_⟩) trivial ?_
        rotate_left 1
        focus (intro w hSw; (try dsimp only at hSw); go_simp; try with_reducible rfl)
        try simp only [Act.put, List.setIfInBounds_toArray, List.set_cons_zero, List.set_cons_succ]
        refine wpAnyH_take (i := 1) (oi := ⟨some 49, .move (.tmp 1), 3, "burst.go:62", #[], none⟩) (v := ?_) rfl (by kernel_rfl) (by kernel_rfl) (by kernel_rfl) (fun _ _ _ h => h) (Or.inl ⟨by rfl, ?_⟩) trivial ?_
        rotate_left 1
        focus (intro w hSw; (try dsimp only at hSw); go_simp; try with_reducible rfl)
        try simp only [Act.put, List.setIfInBounds_toArray, List.set_cons_zero, List.set_cons_succ]
        refine wpAnyH_take (i := 2) (oi := ⟨some 50, .move (.tmp 10), 3, "burst.go:62", #[], none⟩) (v := ?_) rfl (by kernel_rfl) (by kernel_rfl) (by kernel_rfl) (fun _ _ _ h => h) (Or.inl ⟨by rfl, ?_⟩) trivial ?_
        rotate_left 1
        focus (intro w hSw; (try dsimp only at hSw); go_simp; try with_reducible rfl)
        try simp only [Act.put, List.setIfInBounds_toArray, List.set_cons_zero, List.set_cons_succ]
        refine wpAnyH_take (i := 3) (oi := ⟨some 51, .binOp .add 3 (.tmp 49) (.tmp 50) 3, 3, "burst.go:62", #[⟨1, .data⟩, ⟨2, .data⟩], none⟩) (v := ?_) rfl (by kernel_rfl) (by kernel_rfl) (by kernel_rfl) (fun _ _ _ h => h) (Or.inl ⟨by rfl, ?_⟩) trivial ?_
        rotate_left 1
        focus (intro w hSw; (try dsimp only at hSw); go_simp; try with_reducible rfl)
        try simp only [Act.put, List.setIfInBounds_toArray, List.set_cons_zero, List.set_cons_succ]
        refine wpAnyH_take (i := 4) (oi := ⟨some 52, .binOp .quo 3 (.tmp 51) (.const (.int .i64 8)) 3, 3, "burst.go:62", #[⟨3, .data⟩], none⟩) (v := ?_) rfl (by kernel_rfl) (by kernel_rfl) (by kernel_rfl) (fun _ _ _ h => h) (Or.inl ⟨by rfl, ?_⟩) trivial ?_
        rotate_left 1
        focus (intro w hSw; (try dsimp only at hSw); go_simp; try with_reducible rfl)
        try simp only [Act.put, List.setIfInBounds_toArray, List.set_cons_zero, List.set_cons_succ]
        refine wpAnyH_take (i := 5) (oi := ⟨some 53, .indexAddr 36 (.tmp 48) (.tmp 52), 0, "burst.go:62", #[⟨0, .data⟩, ⟨4, .data⟩], none⟩) (v := ?_) rfl (by kernel_rfl) (by kernel_rfl) (by kernel_rfl) (fun _ _ _ h => h) (Or.inl ⟨by rfl, ?_⟩) trivial ?_
        rotate_left 1
        focus (intro w hSw; (try dsimp only at hSw); go_simp; try with_reducible rfl)
        try simp only [Act.put, List.setIfInBounds_toArray, List.set_cons_zero, List.set_cons_succ]
        refine wpAnyH_take (i := 7) (oi := ⟨some 55, .move (.tmp 1), 3, "burst.go:62", #[], none⟩) (v := ?_) rfl (by kernel_rfl) (by kernel_rfl) (by kernel_rfl) (fun _ _ _ h => h) (Or.inl ⟨by rfl, ?_⟩) trivial ?_
        rotate_left 1
        focus (intro w hSw; (try dsimp only at hSw); go_simp; try with_reducible rfl)
        try simp only [Act.put, List.setIfInBounds_toArray, List.set_cons_zero, List.set_cons_succ]
        refine wpAnyH_take (i := 8) (oi := ⟨some 56, .move (.tmp 10), 3, "burst.go:62", #[], none⟩) (v := ?_) rfl (by kernel_rfl) (by kernel_rfl) (by kernel_rfl) (fun _ _ _ h => h) (Or.inl ⟨by rfl, ?_⟩) trivial ?_
        rotate_left 1
        focus (intro w hSw; (try dsimp only at hSw); go_simp; try with_reducible rfl)
        try simp only [Act.put, List.setIfInBounds_toArray, List.set_cons_zero, List.set_cons_succ]
        refine wpAnyH_take (i := 9) (oi := ⟨some 57, .binOp .add 3 (.tmp 55) (.tmp 56) 3, 3, "burst.go:62", #[⟨7, .data⟩, ⟨8, .data⟩], none⟩) (v := ?_) rfl (by kernel_rfl) (by kernel_rfl) (by kernel_rfl) (fun _ _ _ h => h) (Or.inl ⟨by rfl, ?_⟩) trivial ?_
        rotate_left 1
        focus (intro w hSw; (try dsimp only at hSw); go_simp; try with_reducible rfl)
        try simp only [Act.put, List.setIfInBounds_toArray, List.set_cons_zero, List.set_cons_succ]
        refine wpAnyH_take (i := 10) (oi := ⟨some 58, .binOp .rem 3 (.tmp 57) (.const (.int .i64 8)) 3, 3, "burst.go:62", #[⟨9, .data⟩], none⟩) (v := ?_) rfl (by kernel_rfl) (by kernel_rfl) (by kernel_rfl) (fun _ _ _ h => h) (Or.inl ⟨by rfl, ?_⟩) trivial ?_
        rotate_left 1
        focus (intro w hSw; (try dsimp only at hSw); go_simp; try with_reducible rfl)
        try simp only [Act.put, List.setIfInBounds_toArray, List.set_cons_zero, List.set_cons_succ]
        refine wpAnyH_take (i := 11) (oi := ⟨some 59, .binOp .shr 5 (.const (.int .u8 128)) (.tmp 58) 3, 5, "burst.go:62", #[⟨10, .data⟩], none⟩) (v := ?_) rfl (by kernel_rfl) (by kernel_rfl) (by kernel_rfl) (fun _ _ _ h => h) (Or.inl ⟨by rfl, ?_⟩) trivial ?_
        rotate_left 1
        focus (intro w hSw; (try dsimp only at hSw); go_simp; try with_reducible rfl)
        try simp only [Act.put, List.setIfInBounds_toArray, List.set_cons_zero, List.set_cons_succ]
        refine wpAnyH_ready (rs := [6]) (by kernel_rfl) (by simp) ?_
        refine AllReadyH.cons (o := ⟨some 54, .load 5 (.tmp 53), 5, "burst.go:62", #[⟨5, .data⟩], none⟩) rfl (fun K hK => ?_) AllReadyH.nil
        go_simp
        refine hK.out _ _ trivial (fun _ => ?_)
        clear hK K
        try simp only [Act.put, List.setIfInBounds_toArray, List.set_cons_zero, List.set_cons_succ]
        refine wpAnyH_take (i := 12) (oi := ⟨some 60, .binOp .or 5 (.tmp 54) (.tmp 59) 5, 5, "burst.go:62", #[⟨6, .data⟩, ⟨11, .data⟩], none⟩) (v := ?_) rfl (by kernel_rfl) (by kernel_rfl) (by kernel_rfl) (fun _ _ _ h => h) (Or.inl ⟨by rfl, ?_⟩) trivial ?_
        rotate_left 1
        focus (intro w hSw; (try dsimp only at hSw); go_simp; try with_reducible rfl)
        try simp only [Act.put, List.setIfInBounds_toArray, List.set_cons_zero, List.set_cons_succ]
        refine wpAnyH_take (i := 13) (oi := ⟨some 61, .indexAddr 36 (.tmp 48) (.tmp 52), 0, "burst.go:62", #[⟨0, .data⟩, ⟨4, .data⟩, ⟨0, .phase⟩, ⟨1, .phase⟩, ⟨2, .phase⟩, ⟨3, .phase⟩, ⟨4, .phase⟩, ⟨5, .phase⟩, ⟨6, .phase⟩, ⟨7, .phase⟩, ⟨8, .phase⟩, ⟨9, .phase⟩, ⟨10, .phase⟩, ⟨11, .phase⟩, ⟨12, .phase⟩], none⟩) (v := ?_) rfl (by kernel_rfl) (by kernel_rfl) (by kernel_rfl) (fun _ _ _ h => h) (Or.inl ⟨by rfl, ?_⟩) trivial ?_
        rotate_left 1
        focus (intro w hSw; (try dsimp only at hSw); go_simp; try with_reducible rfl)
        try simp only [Act.put, List.setIfInBounds_toArray, List.set_cons_zero, List.set_cons_succ]
        refine wpAnyH_ready (rs := [14]) (by kernel_rfl) (by simp) ?_
        refine AllReadyH.cons (o := ⟨none, .store 5 (.tmp 61) (.tmp 60), 0, "burst.go:62", #[⟨13, .data⟩, ⟨12, .data⟩, ⟨0, .phase⟩, ⟨1, .phase⟩, ⟨2, .phase⟩, ⟨3, .phase⟩, ⟨4, .phase⟩, ⟨5, .phase⟩, ⟨6, .phase⟩, ⟨7, .phase⟩, ⟨8, .phase⟩, ⟨9, .phase⟩, ⟨10, .phase⟩, ⟨11, .phase⟩, ⟨12, .phase⟩], none⟩) rfl (fun K hK => ?_) AllReadyH.nil
        go_simp
        refine hK.out _ _ trivial (fun _ => ?_)
        clear hK K
        try simp only [Act.put, List.setIfInBounds_toArray, List.set_cons_zero, List.set_cons_succ]
        refine wpAnyH_done (by kernel_rfl) ?_ _
        clear dd hc3 z3 hd3 zd3
        go_wp2_with fail
        rw [W3.out]
        have ks := ((Kept.refl [wz.heap.size] wr).set ⟨wz.heap.size, q, none⟩ (.int .u8 (bits .or .u8 ov ((128 : Int) / 2 ^ min r 8))) (by simp)).drew
        have eo : orAt o j = o.set q (bits .or .u8 ov ((128 : Int) / 2 ^ min r 8)) := by
          unfold orAt rd
          rw [← HQ.out.1, ← HQ.out.2.1, OV.out, SV.out, Int.toNat_natCast]
        refine ⟨⟨k + 1, o.set q (bits .or .u8 ov ((128 : Int) / 2 ^ min r 8)), HD.out.1, rfl, KK.out.fresh ks (fun i hi hl => by simp at hi; subst hi; exact absurd hl (Nat.lt_irrefl _)), by rw [List.length_set]; exact OL.out, (SlC.Own.set OW.out q (bits .or .u8 ov ((128 : Int) / 2 ^ min r 8)) (by rw [OL.out]; exact HQ.out.2.2.2.1)).kept ((Kept.refl [] _).drew) (by simp), ?_⟩, HD.out.2⟩
        have := MK2.out
        rw [eo] at this
        exact this
      · rw [Bool.not_eq_true] at ct
        rw [ct] at cb
        rw [if_neg (by simp [ct])] at hmk2
        have MK2 := hid hmk2
        clear ct hmk2 hc3 z3 hd3 zd3 q1 q2 q3 q4 hq hr
        go_wp2_with fail
        rw [W3.out]
        exact ⟨⟨k + 1, o, HD.out.1, rfl, KK.out, OL.out, OW.out, MK2.out⟩, HD.out.2⟩
    · obtain rfl : k = len x := by omega
      clear kk hol how hmk
      go_wp2_with fail
      go_ret2
      have eo := PR.out
      rw [Nat.sub_self] at eo
      have ow := OW.out
      rw [show o = bst n at' x from eo] at ow
      exact ⟨.slice (some ⟨wz.heap.size, 0, none⟩) n n, rfl, KK.out, .inr ⟨_, ow⟩, fun i hi => by cases hi; exact Nat.le_refl _⟩
end BuW
namespace BagC
open Go Go.RowKit Hp Sl Ap
def nth (vs : List Value) (i : Nat) : Value := vs.getD i (.slice none 0 0)
def Rows (w : World) (a : Option Nat) (v : Value) (vs : List Value) : Prop :=
  (v = .slice none 0 0 ∧ vs = [] ∧ a = none) ∨ ∃ (g cap : Nat) (cur : List Value), a = some g ∧ v = .slice (some ⟨g, 0, none⟩) vs.length cap ∧ Has w g 36 cur ∧ vs.length ≤ cap ∧ cap ≤ maxLen ∧ cur.length = cap ∧ cur.take vs.length = vs
theorem Rows.kept {w w' : World} {a : Option Nat} {v : Value} {vs : List Value} {S : List Nat} (h : Rows w a v vs) (k : Kept S w w') (hS : ∀ g, a = some g → g ∉ S) : Rows w' a v vs := by
  rcases h with h | ⟨g, cap, cur, h1, h2, h3, h4⟩
  · exact .inl h
  · exact .inr ⟨g, cap, cur, h1, h2, k.has h3 (hS g h1), h4⟩
theorem Rows.shape {w : World} {a : Option Nat} {v : Value} {vs : List Value} (h : Rows w a v vs) : ∃ p cap, v = .slice p vs.length cap ∧ vs.length ≤ cap := by
  rcases h with ⟨rfl, rfl, _⟩ | ⟨g, cap, cur, _, rfl, _, h, _⟩
  · exact ⟨none, 0, rfl, Nat.le_refl _⟩
  · exact ⟨_, cap, rfl, h⟩
theorem Rows.lt {w : World} {a : Option Nat} {v : Value} {vs : List Value} (h : Rows w a v vs) {g : Nat} (hg : a = some g) : g < w.heap.size := by
  rcases h with ⟨_, _, rfl⟩ | ⟨g', cap, cur, rfl, _, h, _⟩
  · cases hg
  · cases hg; exact h.lt
theorem Rows.cell {w : World} {a : Option Nat} {v : Value} {vs : List Value} (h : Rows w a v vs) (i : Nat) (hi : i < vs.length) : ∃ g cap, v = .slice (some ⟨g, 0, none⟩) vs.length cap ∧ vs.length ≤ cap ∧ a = some g ∧ w.cell? ⟨g, i, none⟩ = some (nth vs i) := by
  rcases h with ⟨_, rfl, _⟩ | ⟨g, cap, cur, e, e2, h1, h2, h3, h4, h5⟩
  · simp at hi
  · refine ⟨g, cap, e2, h2, e, h1.cell i ?_⟩
    have : (cur.take vs.length)[i]? = vs[i]? := by rw [h5]
    rw [List.getElem?_take_of_lt hi] at this
    rw [this]
    simp [nth, List.getD_eq_getElem?_getD, List.getElem?_eq_getElem hi]
theorem info22 : (Tryz.prog.info? 36).map (fun i => (i.zero, i.size, i.bytes)) = some (some (.slice none 0 0), 1, 24) := by kernel_rfl
structure Put1 (w w' : World) (a : Option Nat) (u' : Value) (vs : List Value) (y : Value) : Prop where
  rows : ∃ a', (a' = a ∨ ∃ g, a' = some g ∧ w.heap.size ≤ g) ∧ Rows w' a' u' (vs ++ [y])
  kept : Kept a.toList w w'
set_option maxRecDepth 100000 in
theorem run_put (ty : TypeId) (w : World) (a : Option Nat) (u : Value) (vs : List Value) (t : Nat) (y : Value) (ho : Rows w a u vs) (ht : Has w t 36 [y]) (hy : y.oneCell' = true) (hvs : ∀ v ∈ vs, v.oneCell' = true) (hl : vs.length ≤ 1000000) :
    ∃ u' w', (Builtin.append_ #[118, 118] ty #[u, .slice (some ⟨t, 0, none⟩) 1 1]).run Tryz.prog w = .ok u' w' ∧ Put1 w w' a u' vs y := by
  obtain ⟨i0, hi, hz0, hz1, hz2⟩ := info_parts info22
  have hnews : ∀ j v, [y][j]? = some v → w.cell? (Addr.add ⟨t, 0, none⟩ j) = some v := by
    intro j v hj
    rw [Go.WideShapes.add_plain]
    exact (Nat.zero_add j).symm ▸ ht.cell j hj
  have grow : ∀ (cap2 : Nat) (o : Obj) (cs : List Value), o = .cells cs.toArray 36 → vs.length + 1 ≤ cap2 → cap2 ≤ maxLen → cs.length = cap2 → cs.take (vs.length + 1) = vs ++ [y] → Put1 w (w.drew.alloc o) a (.slice (some ⟨w.heap.size, 0, none⟩) (vs.length + 1) cap2) vs y := by
    rintro cap2 o cs rfl h1 h2 h3 h4
    have hk := ((Kept.refl [] w).drew).alloc (.cells cs.toArray 36)
    exact ⟨⟨some w.heap.size, .inr ⟨_, rfl, Nat.le_refl _⟩, .inr ⟨w.heap.size, cap2, cs, rfl, by simp, Has.new w.drew _ _, by simpa using h1, h2, h3, by simpa using h4⟩⟩, hk.mono (by simp)⟩
  rcases ho with ⟨rfl, rfl, rfl⟩ | ⟨g, cap, cur, rfl, rfl, h1, h2, h3, h4, h5⟩
  · have hr := run_append_nil (P := Tryz.prog) w 118 ty 36 i0 (.slice none 0 0) Tryz.underlying118 hi hz0 ⟨t, 0, none⟩ 1 1 [y] (by simp [hz1]) hnews (by decide) (by decide) (by rw [hz2]; decide)
    refine ⟨_, _, hr, ?_⟩
    have hge := grownCap_ge w 1 0 36
    have hcm := grownCap_le_maxLen w 1 0 36 (by decide)
    refine grow _ _ (y :: (Builtin.zeroCells (Value.slice none 0 0).cells (grownCap w 1 0 36 - 1)).toList) ?_ hge hcm ?_ ?_
    · congr 1; apply Array.ext'; simp
    · simp [size_zeroCells, Value.cells]; omega
    · simp
  · have holds : ∀ j v, vs[j]? = some v → w.cell? (Addr.add ⟨g, 0, none⟩ j) = some v := by
      intro j v hj
      rw [Go.WideShapes.add_plain, Nat.zero_add]
      have hj' : j < vs.length := by
        rcases Nat.lt_or_ge j vs.length with h | h
        · exact h
        · rw [List.getElem?_eq_none h] at hj; cases hj
      refine h1.cell j ?_
      rw [← h5, List.getElem?_take_of_lt hj'] at hj
      exact hj
    by_cases hroom : vs.length + 1 ≤ cap
    · have hr := run_append_room (P := Tryz.prog) w 118 ty 36 i0 Tryz.underlying118 hi g vs.length cap cur.toArray (by unfold Has at h1; exact h1) ⟨t, 0, none⟩ 1 1 [y] (by simp [hz1]) hnews (by intro u hu; simp at hu; subst hu; exact hy) hroom (by simp [hz1]; omega)
      refine ⟨_, _, hr, ?_⟩
      have hset : ((cur.toArray.toList.take (vs.length * i0.size) ++ [y] ++ cur.toArray.toList.drop (vs.length * i0.size + [y].length)).toArray) = (cur.set vs.length y).toArray := by
        rw [hz1, Nat.mul_one]
        congr 1
        simp only [List.length_singleton]
        rw [List.set_eq_take_append_cons_drop, if_pos (by omega)]
        simp
      rw [hset]
      have hnew : Has (w.setRow g (cur.set vs.length y).toArray) g 36 (cur.set vs.length y) := setRow_heap w g cur.toArray _ 36 _ (by unfold Has at h1; exact h1)
      have hk : Kept [g] w (w.setRow g (cur.set vs.length y).toArray) := ⟨rfl, rfl, rfl, by simp, fun k _ hk => setRow_other w g k _ (fun e => hk (by simp [e]))⟩
      refine ⟨⟨some g, .inl rfl, .inr ⟨g, cap, cur.set vs.length y, rfl, by simp, hnew, by simpa using hroom, h3, by simpa using h4, ?_⟩⟩, by simpa using hk⟩
      rw [List.length_append, List.length_singleton]
      rw [List.set_eq_take_append_cons_drop, if_pos (by omega)]
      have hlen : (cur.take vs.length).length = vs.length := by rw [List.length_take]; omega
      rw [List.take_append, hlen, List.take_of_length_le (by omega), show vs.length + 1 - vs.length = 1 by omega, h5]
      rfl
    · have hr := run_append_grow (P := Tryz.prog) w 118 ty 36 i0 (.slice none 0 0) Tryz.underlying118 hi hz0 ⟨g, 0, none⟩ vs.length cap vs (by simp [hz1]) holds ⟨t, 0, none⟩ 1 1 [y] (by simp [hz1]) hnews (by omega) (by omega) (growslice_fits (by omega) (by rw [hz2]; omega))
      refine ⟨_, _, hr, ?_⟩
      have hge := grownCap_ge w (vs.length + 1) cap 36
      have hcm := grownCap_le_maxLen w (vs.length + 1) cap 36 (by unfold maxLen; omega)
      refine grow _ _ (vs ++ [y] ++ (Builtin.zeroCells (Value.slice none 0 0).cells (grownCap w (vs.length + 1) cap 36 - (vs.length + 1))).toList) ?_ hge hcm ?_ ?_
      · congr 1; apply Array.ext'; simp
      · simp [size_zeroCells, Value.cells]; omega
      · rw [List.take_append_of_le_length (by simp)]; exact List.take_of_length_le (by simp)
theorem wp_put {o : Oper} {a : Act} {w : World} {K : Act → World → Prop} {Q : Exit → Act → World → Prop} {s x : Operand}
    (ho : o.op = .call { callee := .builtin .append, args := #[s, x], argTypes := #[118, 118] }) (r : Option Nat) (u : Value) (vs : List Value) (t : Nat) (y : Value) (hR : Rows w r u vs) (hT : Has w t 36 [y]) (hy : y.oneCell' = true) (hvs : ∀ v ∈ vs, v.oneCell' = true)
    (hs : a.eval s = u) (hx : a.eval x = .slice (some ⟨t, 0, none⟩) 1 1) (hl : vs.length ≤ 1000000)
    (h : ∀ v' w', Put1 w w' r v' vs y → K (a.put o.dst v') w') : o.wp Tryz.prog a w K Q := by
  obtain ⟨v', w', hr, hp⟩ := run_put o.type w r u vs t y hR hT hy hvs hl
  unfold Oper.wp execOp
  simp only [ho, resolve, invoke, builtin, Sem.run_bind, Sem.run_pure, Result.andThen_ok, List.map_toArray, List.map_cons, List.map_nil, hs, hx, hr]
  exact h v' w' hp
theorem step_put {ops : Array Oper} {o : Oper} {a : Act} {w : World} {K : Act → World → Prop} {Q : Exit → Act → World → Prop} {E : Prop} (hgd : o.guard = none) (s x : Operand)
    (ho : o.op = .call { callee := .builtin .append, args := #[s, x], argTypes := #[118, 118] }) (r : Option Nat) (u : Value) (vs : List Value) (t : Nat) (y : Value) (hR : Rows w r u vs) (hT : Has w t 36 [y]) (hy : y.oneCell' = true) (hvs : ∀ v ∈ vs, v.oneCell' = true)
    (hs : a.eval s = u) (hx : a.eval x = .slice (some ⟨t, 0, none⟩) 1 1) (hl : vs.length ≤ 1000000)
    (h : ∀ v' w', Put1 w w' r v' vs y → K (a.put o.dst v') w') : if Region.wanted o (yielded ops a.tmps) = true then Oper.wp Tryz.prog o a w K Q else E := by
  have hw : Region.wanted o (yielded ops a.tmps) = true := by simp [Region.wanted, hgd]
  rw [if_pos hw]
  exact wp_put ho r u vs t y hR hT hy hvs hs hx hl h
theorem row_of_cloned {w w0 w1 : World} {s v : Value} {l : List Int} (hb : Bytes w s l) (h : Cloned w0 s l v w1) : Row w1 v l ∧ ∀ k, v.ownBlock = some k → w0.heap.size ≤ k := by
  rcases h with ⟨rfl, rfl⟩ | ⟨_, g, hg, ho⟩
  · refine ⟨.inl ⟨rfl, ?_⟩, fun k hk => by cases hk⟩
    rcases hb with ⟨_, h⟩ | ⟨x, cap, e, _⟩
    · exact h
    · cases e
  · exact ⟨.inr ⟨g, ho⟩, fun k hk => by rw [Own.block ho] at hk; cases hk; exact hg⟩
theorem Row.sl {w : World} {v : Value} {l : List Int} (h : Row w v l) : ∃ p c, v = .slice p l.length c := by
  rcases h with ⟨rfl, rfl⟩ | ⟨g, h⟩
  · exact ⟨_, _, rfl⟩
  · obtain ⟨_, _, rfl, _⟩ := h; exact ⟨_, _, rfl⟩
def RowP (P : Nat → Prop) (w : World) (v : Value) (l : List Int) : Prop := Row w v l ∧ ∀ k, v.ownBlock = some k → P k
def HeldP (P : Nat → Prop) (w : World) (a : Option Nat) (v : Value) (fs : List (List Int)) : Prop :=
  ∃ vs, Rows w a v vs ∧ vs.length = fs.length ∧ ∀ i, i < fs.length → RowP P w (nth vs i) (fs.getD i [])
def All (_ : Nat) : Prop := True
abbrev Held (w : World) (a : Option Nat) (v : Value) (fs : List (List Int)) : Prop := HeldP All w a v fs
theorem Row.oneCell {w : World} {v : Value} {l : List Int} (h : Row w v l) : v.oneCell' = true := by
  rcases h with ⟨rfl, _⟩ | ⟨g, h⟩
  · rfl
  · obtain ⟨_, _, rfl, _⟩ := h; rfl
theorem Row.bytes {w : World} {v : Value} {l : List Int} (h : Row w v l) : Bytes w v l := by
  rcases h with h | ⟨g, h⟩
  · exact .inl h
  · exact h.bytes
theorem Row.keptP {P : Nat → Prop} {w w' : World} {v : Value} {l : List Int} {S : List Nat} (h : RowP P w v l) (k : Kept S w w') (hS : ∀ b, b ∈ S → b < w.heap.size → (∃ T cs, Has w b T cs ∧ T ≠ 5) ∨ ¬ P b) : RowP P w' v l := by
  refine ⟨?_, h.2⟩
  rcases h.1 with h1 | ⟨g, h1⟩
  · exact .inl h1
  · refine .inr ⟨g, h1.kept k (fun hm => ?_)⟩
    rcases hS g hm h1.lt with ⟨T, cs, h2, hT⟩ | hn
    · obtain ⟨_, _, _, h3, _⟩ := h1
      unfold Has at h2 h3
      rw [h2] at h3
      simp at h3
      exact hT h3.2
    · exact hn (h.2 g (Own.block h1))
theorem HeldP.all {P : Nat → Prop} {w : World} {a : Option Nat} {v : Value} {fs : List (List Int)} (h : HeldP P w a v fs) : Held w a v fs := by
  obtain ⟨vs, h1, h2, h3⟩ := h
  exact ⟨vs, h1, h2, fun i hi => ⟨(h3 i hi).1, fun _ _ => trivial⟩⟩
theorem HeldP.kept {P : Nat → Prop} {w w' : World} {a : Option Nat} {v : Value} {fs : List (List Int)} {S : List Nat} (h : HeldP P w a v fs) (k : Kept S w w') (hS : ∀ b, b ∈ S → b < w.heap.size → (∃ T cs, Has w b T cs ∧ T ≠ 5) ∨ ¬ P b) (ha : ∀ g, a = some g → g ∉ S) : HeldP P w' a v fs := by
  obtain ⟨vs, h1, h2, h3⟩ := h
  exact ⟨vs, h1.kept k ha, h2, fun i hi => Row.keptP (h3 i hi) k hS⟩
theorem Held.one {P : Nat → Prop} {w : World} {fs : List (List Int)} {vs : List Value} (h2 : vs.length = fs.length) (h3 : ∀ i, i < fs.length → RowP P w (nth vs i) (fs.getD i [])) : ∀ v ∈ vs, v.oneCell' = true := by
  intro v hv
  obtain ⟨j, hj, rfl⟩ := List.getElem_of_mem hv
  have := h3 j (by omega)
  have e : nth vs j = vs[j] := by simp [nth, List.getD_eq_getElem?_getD, List.getElem?_eq_getElem hj]
  rw [← e]; exact Row.oneCell this.1
theorem Held.put {P : Nat → Prop} {w w' : World} {a : Option Nat} {v u' y : Value} {fs : List (List Int)} {vs : List Value} {f : List Int} (h1 : Rows w a v vs) (h2 : vs.length = fs.length) (h3 : ∀ i, i < fs.length → RowP P w (nth vs i) (fs.getD i [])) (hy : RowP P w y f) (hp : Put1 w w' a u' vs y) :
    ∃ a', (a' = a ∨ ∃ g, a' = some g ∧ w.heap.size ≤ g) ∧ HeldP P w' a' u' (fs ++ [f]) := by
  obtain ⟨a', ha', hr⟩ := hp.rows
  refine ⟨a', ha', vs ++ [y], hr, by simp [h2], fun i hi => ?_⟩
  have hS : ∀ b, b ∈ a.toList → b < w.heap.size → (∃ T cs, Has w b T cs ∧ T ≠ 5) ∨ ¬ P b := by
    intro b hb _
    refine .inl ?_
    rcases h1 with ⟨_, _, rfl⟩ | ⟨g, cap, cur, rfl, _, h, _⟩
    · simp at hb
    · simp at hb; subst hb; exact ⟨_, _, h, by decide⟩
  rw [List.length_append, List.length_singleton] at hi
  by_cases e : i < fs.length
  · have e1 : nth (vs ++ [y]) i = nth vs i := by simp [nth, List.getD_eq_getElem?_getD, List.getElem?_append_left (show i < vs.length by omega)]
    have e2 : (fs ++ [f]).getD i [] = fs.getD i [] := by simp [List.getD_eq_getElem?_getD, List.getElem?_append_left e]
    rw [e1, e2]; exact Row.keptP (h3 i e) hp.kept hS
  · have : i = fs.length := by omega
    subst this
    have e1 : nth (vs ++ [y]) fs.length = y := by simp [nth, List.getD_eq_getElem?_getD, ← h2]
    have e2 : (fs ++ [f]).getD fs.length [] = f := by simp [List.getD_eq_getElem?_getD]
    rw [e1, e2]; exact Row.keptP hy hp.kept hS
end BagC
namespace BagC
open Go Go.RowKit Hp Sl Ap MeterC
def tot (fs : List (List Int)) : Nat := fs.foldl (fun n f => n + f.length) 0
def top (fs : List (List Int)) : Nat := fs.foldl (fun n f => if n < f.length then f.length else n) 0
theorem tot_app (fs : List (List Int)) (f : List Int) : tot (fs ++ [f]) = tot fs + f.length := by simp [tot]
theorem top_app (fs : List (List Int)) (f : List Int) : top (fs ++ [f]) = if top fs < f.length then f.length else top fs := by unfold top; rw [List.foldl_append]; rfl
structure Few (fs : List (List Int)) : Prop where
  len : fs.length ≤ 4096
  each : ∀ f ∈ fs, f.length ≤ 27
theorem Few.tot {fs : List (List Int)} (h : Few fs) : BagC.tot fs ≤ 27 * fs.length := by
  have : ∀ (n : Nat) (l : List (List Int)), (∀ f ∈ l, f.length ≤ 27) → l.foldl (fun n f => n + f.length) n ≤ n + 27 * l.length := by
    intro n l
    induction l generalizing n with
    | nil => intro _; simp
    | cons f l ih =>
      intro hl
      have h1 := hl f (by simp)
      have h2 := ih (n + f.length) (fun g hg => hl g (by simp [hg]))
      simp only [List.foldl_cons, List.length_cons]
      omega
  have := this 0 fs h.each
  simpa [BagC.tot] using this
theorem Few.get {fs : List (List Int)} (h : Few fs) (i : Nat) : (fs.getD i []).length ≤ 27 := by
  rw [List.getD_eq_getElem?_getD]
  rcases Nat.lt_or_ge i fs.length with hi | hi
  · rw [List.getElem?_eq_getElem hi]; exact h.each _ (List.getElem_mem _)
  · rw [List.getElem?_eq_none hi]; simp
structure Metered (mm : M) (fs : List (List Int)) : Prop where
  total : mm.total = tot fs
  any : mm.any = decide (fs ≠ [])
  peak : (if mm.any then mm.peak else 0) = top fs
theorem Metered.put {mm : M} {fs : List (List Int)} (h : Metered mm fs) (h7 : Few fs) (l : List Int) (hl : l.length ≤ 27) : Metered ((mm.add (IntKind.u64.wrap (l.length : Int))).raise (l.length : Int)) (fs ++ [l]) := by
  obtain ⟨total, peak, any, flags, on, last⟩ := mm
  obtain ⟨h1, h2, h3⟩ := h
  simp only at h1 h2 h3
  have ht := h7.tot
  have h4 := h7.len
  have ew : IntKind.u64.wrap (l.length : Int) = (l.length : Int) := by rw [IntKind.wrap_u64]; omega
  have ea : addv total (l.length : Int) = ((tot fs + l.length : Nat) : Int) := by
    have e : IntKind.u64.wrap (total + (l.length : Int)) = total + (l.length : Int) := by rw [IntKind.wrap_u64]; omega
    unfold addv
    rw [e, if_neg (by omega)]; omega
  rw [ew]
  unfold M.add
  simp only
  rw [ea]
  have tp := top_app fs l
  have tt := tot_app fs l
  cases any with
  | false =>
    have hfs : fs = [] := by simpa using h2.symm
    subst hfs
    have e0 : top ([] : List (List Int)) = 0 := rfl
    rw [e0] at tp
    refine ⟨?_, ?_, ?_⟩
    · simp only [M.raise, MeterC.raised, Bool.not_false, Bool.true_or, if_true]; rw [tt]
    · simp [M.raise, MeterC.raised]
    · simp only [M.raise, MeterC.raised, Bool.not_false, Bool.true_or, if_true]; rw [tp]; split <;> omega
  | true =>
    have hfs : fs ≠ [] := by simpa using h2.symm
    rw [if_pos rfl] at h3
    by_cases hlt : peak < (l.length : Int)
    · have hd := decide_eq_true hlt
      refine ⟨?_, ?_, ?_⟩
      · simp only [M.raise, MeterC.raised, Bool.not_true, Bool.false_or, hd, if_true]; rw [tt]
      · simp [M.raise, MeterC.raised, hd]
      · simp only [M.raise, MeterC.raised, Bool.not_true, Bool.false_or, hd, if_true]; rw [tp, if_pos (by omega)]
    · have hd := decide_eq_false hlt
      refine ⟨?_, ?_, ?_⟩
      · simp only [M.raise, MeterC.raised, Bool.not_true, Bool.false_or, hd]; rw [tt]; rfl
      · simp [M.raise, MeterC.raised, hd]
      · simp only [M.raise, MeterC.raised, Bool.not_true, Bool.false_or, hd, Bool.false_eq_true, if_false, if_true]; rw [tp, if_neg (by omega)]; exact h3
theorem Few.put {fs : List (List Int)} (h : Few fs) (l : List Int) (hl : l.length ≤ 27) (hf : fs.length < 4096) : Few (fs ++ [l]) :=
  ⟨by simp; omega, fun f hm => by
    rcases List.mem_append.1 hm with hm | hm
    · exact h.each f hm
    · simp at hm; subst hm; exact hl⟩
def IsBagP (P : Nat → Prop) (w : World) (b m : Nat) (la : Option Nat) (fs : List (List Int)) : Prop :=
  ∃ v mm, Has w b 120 [v, .pointer (some ⟨m, 0, none⟩)] ∧ IsM w m mm ∧ HeldP P w la v fs ∧ Metered mm fs ∧ Few fs
abbrev IsBag (w : World) (b m : Nat) (la : Option Nat) (fs : List (List Int)) : Prop := IsBagP All w b m la fs
theorem IsBagP.all {P : Nat → Prop} {w : World} {b m : Nat} {la : Option Nat} {fs : List (List Int)} (h : IsBagP P w b m la fs) : IsBag w b m la fs := by
  obtain ⟨v, mm, h1, h2, h3, h4⟩ := h
  exact ⟨v, mm, h1, h2, h3.all, h4⟩
theorem Held.ty {P : Nat → Prop} {w : World} {a : Option Nat} {v : Value} {fs : List (List Int)} (h : HeldP P w a v fs) {g : Nat} (hg : a = some g) : ∃ cs, Has w g 36 cs := by
  obtain ⟨vs, h1, _⟩ := h
  rcases h1 with ⟨_, _, rfl⟩ | ⟨g', cap, cur, rfl, _, h, _⟩
  · cases hg
  · cases hg; exact ⟨_, h⟩
theorem Has.neq {w : World} {b b' : Nat} {T T' : TypeId} {cs cs' : List Value} (h : Has w b T cs) (h' : Has w b' T' cs') (hne : T ≠ T') : b ≠ b' := by
  rintro rfl
  unfold Has at h h'
  rw [h] at h'
  simp at h'
  exact hne h'.2
theorem new_callP (P : Nat → Prop) (w : World) : Calls Tryz.prog 28 #[] w fun e w' => ∃ b m, e = .returned (.pointer (some ⟨b, 0, none⟩)) ∧ Kept [] w w' ∧ IsBagP P w' b m none [] ∧ w.heap.size ≤ b ∧ w.heap.size ≤ m := by
  go_enter Tryz.func28, Tryz.ntmps28
  go_wp2_with fail
  refine (MeterC.new_call _).mono ?_
  rintro e w2 ⟨rfl, k2, h2⟩
  go_wp2
  go_ret
  have hh := Has.new w2 120 [.slice none 0 0, .pointer (some ⟨w.heap.size, 0, none⟩)]
  exact ⟨_, _, rfl, k2.alloc _, ⟨_, M.new, hh, h2.alloc _, ⟨[], .inl ⟨rfl, rfl, rfl⟩, rfl, by simp⟩, ⟨rfl, rfl, rfl⟩, ⟨by simp, by simp⟩⟩, k2.size, Nat.le_refl _⟩
set_option maxRecDepth 100000 in
set_option maxHeartbeats 1600000 in
theorem put_callP (P : Nat → Prop) (b m : Nat) (la : Option Nat) (fs : List (List Int)) (s : Value) (l : List Int) (w : World) (hP : ∀ k, w.heap.size ≤ k → P k) (h : IsBagP P w b m la fs) (hs : Bytes w s l) (hl : l.length ≤ 27) (hf : fs.length < 4096) :
    Calls Tryz.prog 97 #[.pointer (some ⟨b, 0, none⟩), s] w fun e w' => e = .returned (.tuple #[.int .i64 (fs.length : Nat), .int .i64 0]) ∧ Kept (b :: m :: la.toList) w w' ∧ ∃ la', (la' = la ∨ ∃ g, la' = some g ∧ w.heap.size ≤ g) ∧ IsBagP P w' b m la' (fs ++ [l]) := by
  obtain ⟨v, mm, h1, h2, ⟨vs, h3, h4, h5⟩, h6, h7⟩ := h
  obtain ⟨p, c, rfl⟩ : ∃ p c, s = .slice p l.length c := by rcases hs with ⟨rfl, rfl⟩ | ⟨x, cap, rfl, _⟩ <;> exact ⟨_, _, rfl⟩
  obtain ⟨pv, cv, rfl, hle⟩ := h3.shape
  have c0 := h1.cell 0 (v := .slice pv vs.length cv) rfl
  have c1 := h1.cell 1 (v := .pointer (some ⟨m, 0, none⟩)) rfl
  have z0 := h1.free 0
  have e1 : decide ((l.length : Int) > 27) = false := by simp; omega
  have e2 : decide ((vs.length : Int) ≥ 4096) = false := by simp; omega
  have HS := hid hs
  have H1 := hid h1
  have H2 := hid h2
  have H3 := hid h3
  have H5 := hid h5
  have HL := hid hl
  clear hs h1 h2 h3 h5 hl
  have hsl : vs.length ≤ 1000000 := by omega
  have hone := hid (Held.one h4 H5.out)
  have H4 := hid h4
  have hnb : b ∉ la.toList := by
    intro hm
    simp at hm
    obtain ⟨cs, q⟩ := Held.ty (⟨vs, H3.out, h4, H5.out⟩ : HeldP P w la _ fs) hm
    exact Has.neq H1.out q (by decide) rfl
  have nb := hid hnb
  clear h4 hle hnb
  go_enter Tryz.func97, Tryz.ntmps97
  go_wp2_with fail
  go_region_law (first
    | (refine step_put (by rfl) _ _ (by rfl) la _ vs _ _ R1.out T1.out (Row.oneCell Y.out.1) hone.out (by rfl) (by rfl) hsl ?_; intro u2 w2 hp; obtain ⟨la2, hla2, hr2⟩ := hp.rows; obtain ⟨pu, cu, hu, _⟩ := hr2.shape; rw [List.length_append, List.length_singleton] at hu; subst hu; have R2 := hid (And.intro hla2 hr2); have B2 := hid (hp.kept.has ((K1.out.alloc (.cells #[.slice py l.length cy] 36)).has H1.out (by simp)) nb.out); have f0 := B2.out.cell 0 (v := .slice pv vs.length cv) rfl; have g0 := B2.out.free 0; have P2 := hid hp; clear hp hr2 hla2)
    | (go_simp; go_at_call 35; refine (clone_call _ l _ (HS.out.kept ((Kept.refl [] w).drew) (by simp)) (by have := HL.out; omega)).mono ?_; rintro e w1 ⟨y, rfl, k1, hcl⟩; obtain ⟨py, cy, hy⟩ := Row.sl (row_of_cloned HS.out hcl).1; subst hy; have K1 := hid ((Kept.refl [] w).drew.trans k1); have Y := hid (row_of_cloned HS.out hcl); have R1 := hid (H3.out.kept (K1.out.alloc (.cells #[.slice py l.length cy] 36)) (by simp)); have T1 := hid (Has.new w1 36 [.slice py l.length cy]); have d0 := (K1.out.has H1.out (by simp)).cell 0 (v := .slice pv vs.length cv) rfl; have d1 := ((K1.out.alloc (.cells #[.slice py l.length cy] 36)).has H1.out (by simp)).cell 0 (v := .slice pv vs.length cv) rfl; clear k1 hcl))
  all_goals (
    have X := K1.out.alloc (.cells #[.slice py l.length cy] 36)
    obtain ⟨la', hla', hh2⟩ := Held.put R1.out H4.out (fun i hi => Row.keptP (H5.out i hi) X (by simp)) (Row.keptP ⟨Y.out.1, fun k hk => hP k (Y.out.2 k hk)⟩ ((Kept.refl [] w1).alloc (.cells #[.slice py l.length cy] 36)) (by simp)) P2.out
    have KW := (Kept.refl [b] w2).set ⟨b, 0, none⟩ (.slice pu (vs.length + 1) cu) (by simp)
    have B3 := B2.out.set 0 (.slice pu (vs.length + 1) cu)
    have M2 : IsM w2 m mm := P2.out.kept.has (X.has H2.out (by simp)) (by
      intro hm
      simp at hm
      obtain ⟨cs, q⟩ := Held.ty (⟨vs, H3.out, H4.out, H5.out⟩ : HeldP P w la _ fs) hm
      exact Has.neq H2.out q (by decide) rfl)
    have M3 : IsM _ m mm := KW.has M2 (by simp; exact Has.neq M2 B2.out (by decide))
    have H6 := HeldP.kept hh2 KW (by intro x hx hl; simp at hx; subst hx; exact .inl ⟨_, _, B2.out, by decide⟩) (by intro g hg hm; simp at hm; subst hm; obtain ⟨cs, q⟩ := Held.ty hh2 hg; exact Has.neq B2.out q (by decide) rfl)
    have K3 : Kept (b :: m :: la.toList) w (w2.setCell ⟨b, 0, none⟩ (.slice pu (vs.length + 1) cu)) := ((X.mono (by simp)).trans (P2.out.kept.mono (by intro k hk; simp [hk]))).trans (KW.mono (by simp))
    have hla3 : la' = la ∨ ∃ g, la' = some g ∧ w.heap.size ≤ g := by
      rcases hla' with h | ⟨g, h, hg⟩
      · exact .inl h
      · exact .inr ⟨g, h, Nat.le_trans X.size hg⟩
    have HB3 := hid B3
    have HM3 := hid M3
    have HH6 := hid H6
    have HK3 := hid K3
    have HLA := hid hla3
    clear M2 B3 M3 H6 K3 hla3 hla' KW X c0 c1 z0 d0 d1 f0 g0 K1 Y R1 T1 R2 B2 P2 hh2
    generalize w2.setCell ⟨b, 0, none⟩ (.slice pu (vs.length + 1) cu) = w3 at *
    have c1 := HB3.out.cell 1 (v := .pointer (some ⟨m, 0, none⟩)) rfl
    go_wp2_with fail)
  all_goals (
    refine (add_call m mm _ _ HM3.out).mono ?_
    rintro e w4 ⟨rfl, k4, h4'⟩
    have nbm : b ≠ m := Has.neq HB3.out HM3.out (by decide)
    have B4 := hid (k4.has HB3.out (by simp; exact nbm))
    have H4' := hid h4'
    have K4 := hid k4
    clear c1 h4' k4
    have c1 := B4.out.cell 1 (v := .pointer (some ⟨m, 0, none⟩)) rfl
    go_wp2_with fail
    refine (raise_call m _ _ _ H4'.out).mono ?_
    rintro e w5 ⟨rfl, k5, h5'⟩
    have B5 := hid (k5.has B4.out (by simp; exact nbm))
    have H5' := hid h5'
    have K5 := hid k5
    have NBM := hid nbm
    clear c1 h5' k5 nbm
    have c0 := B5.out.cell 0 (v := .slice pu (vs.length + 1) cu) rfl
    go_wp2_with fail
    go_ret2
    have K2 := HK3.out.trans ((K4.out.mono (by simp)).trans (K5.out.mono (by simp)))
    have q := NBM.out
    have h4 := H4.out
    refine ⟨by go_num, K2, la', HLA.out, _, _, B5.out, H5'.out, HeldP.kept HH6.out (K4.out.trans K5.out) ?_ ?_, h6.put h7 l HL.out, h7.put l HL.out hf⟩
    · intro x hx hl
      simp at hx
      subst hx
      exact .inl ⟨_, _, HM3.out, by decide⟩
    · intro g hg hm
      simp at hm
      subst hm
      obtain ⟨cs, q⟩ := Held.ty HH6.out hg
      exact Has.neq HM3.out q (by decide) rfl)
end BagC
namespace BagC
open Go Go.RowKit Hp Sl Ap MeterC EncW Gf Ow UEnc UDecW UnW
theorem len_call (b m : Nat) (la : Option Nat) (fs : List (List Int)) (w : World) (h : IsBag w b m la fs) :
    Calls Tryz.prog 47 #[.pointer (some ⟨b, 0, none⟩)] w fun e w' => e = .returned (.int .i64 (fs.length : Nat)) ∧ w = w' := by
  obtain ⟨v, mm, h1, h2, ⟨vs, h3, h4, h5⟩, h6, h7⟩ := h
  obtain ⟨pv, cv, rfl, hle⟩ := h3.shape
  rw [← h4]
  have c0 := h1.cell 0 (v := .slice pv vs.length cv) rfl
  clear h1 h2 h3 h5 h4 h6 h7
  go_enter Tryz.func47, Tryz.ntmps47
  go_wp2
  go_ret
  exact ⟨rfl, rfl⟩
theorem made_of_cloned {w w1 : World} {s v : Value} {l : List Int} (hb : Bytes w s l) (h : Cloned w s l v w1) : Made w w1 v l := row_of_cloned hb h
theorem get_in (b m : Nat) (la : Option Nat) (fs : List (List Int)) (i : Nat) (w : World) (h : IsBag w b m la fs) (hi : i < fs.length) :
    Calls Tryz.prog 38 #[.pointer (some ⟨b, 0, none⟩), .int .i64 (i : Int)] w fun e w' => ∃ y, e = .returned (.tuple #[y, .int .i64 0]) ∧ Kept [] w w' ∧ Made w w' y (fs.getD i []) := by
  obtain ⟨v, mm, h1, h2, ⟨vs, h3, h4, h5⟩, h6, h7⟩ := h
  obtain ⟨g, cv, rfl, hle, hg, hc⟩ := h3.cell i (by omega)
  have hr := (h5 i hi).1
  obtain ⟨py, cy, ey⟩ := Row.sl hr
  rw [ey] at hc hr
  have HR := hid (Row.bytes hr)
  have c0 := h1.cell 0 (v := .slice (some ⟨g, 0, none⟩) vs.length cv) rfl
  have n1 : decide ((i : Int) < 0) = false := by simp
  have n2 : decide ((i : Int) ≥ (vs.length : Int)) = false := by simp; omega
  have n3 : i < cv := by omega
  have n4 : i < vs.length := by omega
  have hsm := hid (h7.get i)
  generalize fs.getD i [] = l at *
  clear h1 h2 h3 h5 h4 h6 h7 hr hi ey hle
  go_enter Tryz.func38, Tryz.ntmps38
  go_wp2_with fail
  refine (clone_call _ l _ HR.out (by have := hsm.out; omega)).mono ?_
  rintro e w2 ⟨y, rfl, k2, hcl⟩
  have Y := hid (made_of_cloned HR.out hcl)
  clear hcl
  go_wp2_with fail
  go_ret2
  exact ⟨y, rfl, k2, Y.out⟩
theorem get_out (b m : Nat) (la : Option Nat) (fs : List (List Int)) (i : Int) (w : World) (h : IsBag w b m la fs) (hi : i < 0 ∨ (fs.length : Int) ≤ i) :
    Calls Tryz.prog 38 #[.pointer (some ⟨b, 0, none⟩), .int .i64 i] w fun e w' => e = .returned (.tuple #[.slice none 0 0, .int .i64 151]) ∧ Kept [] w w' := by
  obtain ⟨v, mm, h1, h2, ⟨vs, h3, h4, h5⟩, h6, h7⟩ := h
  obtain ⟨pv, cv, rfl, hle⟩ := h3.shape
  have c0 := h1.cell 0 (v := .slice pv vs.length cv) rfl
  by_cases hn : i < 0
  · have n1 : decide (i < 0) = true := by simpa using hn
    clear h1 h2 h3 h5 h4 h6 h7 hi hle hn
    go_enter Tryz.func38, Tryz.ntmps38
    go_wp2_with fail
    go_ret2
    exact ⟨rfl, Kept.refl _ _⟩
  · have n1 : decide (i < 0) = false := by simpa using hn
    have n2 : decide (i ≥ (vs.length : Int)) = true := by simp; omega
    clear h1 h2 h3 h5 h4 h6 h7 hi hle hn
    go_enter Tryz.func38, Tryz.ntmps38
    go_wp2_with fail
    go_ret2
    exact ⟨rfl, Kept.refl _ _⟩
def IsB (G : Nat → Prop) (w : World) (b : Nat) (us : List TM.U) : Prop :=
  ∃ m la, IsBagP G w b m la (us.map frame) ∧ G b ∧ G m ∧ ∀ g, la = some g → G g
variable {G G' : Nat → Prop} {w w' : World} {b : Nat} {us : List TM.U}
theorem frames_at (us : List TM.U) (i : Nat) (hi : i < us.length) : (us.map frame).getD i [] = frame (us.getD i TM.U.zero) := by
  rw [List.getD_eq_getElem?_getD, List.getD_eq_getElem?_getD, List.getElem?_map, List.getElem?_eq_getElem hi]; rfl
theorem IsB.frame {S : List Nat} (h : IsB G w b us) (k : Kept S w w') (hS : ∀ i, i ∈ S → i < w.heap.size → ¬ G i) : IsB G w' b us := by
  obtain ⟨m, la, ⟨v, mm, h1, h2, ⟨vs, h3, h4, h5⟩, h6, h7⟩, gb, gm, gl⟩ := h
  have h3' := h3
  refine ⟨m, la, ⟨v, mm, k.has h1 (fun hm => hS _ hm h1.lt gb), k.has h2 (fun hm => hS _ hm (Has.lt h2) gm), ⟨vs, h3.kept k (fun g hg hm => hS _ hm (h3'.lt hg) (gl g hg)), h4, fun i hi => ?_⟩, h6, h7⟩, gb, gm, gl⟩
  obtain ⟨q1, q2⟩ := h5 i hi
  refine ⟨?_, q2⟩
  rcases q1 with q | ⟨g, q⟩
  · exact .inl q
  · exact .inr ⟨g, q.kept k (fun hm => hS _ hm q.lt (q2 g (Own.block q)))⟩
theorem IsB.mono (h : IsB G w b us) (hG : ∀ i, i < w.heap.size → G i → G' i) : IsB G' w b us := by
  obtain ⟨m, la, ⟨v, mm, h1, h2, ⟨vs, h3, h4, h5⟩, h6, h7⟩, gb, gm, gl⟩ := h
  have h3' := h3
  refine ⟨m, la, ⟨v, mm, h1, h2, ⟨vs, h3, h4, fun i hi => ?_⟩, h6, h7⟩, hG _ h1.lt gb, hG _ (Has.lt h2) gm, fun g hg => hG _ (h3'.lt hg) (gl g hg)⟩
  obtain ⟨q1, q2⟩ := h5 i hi
  refine ⟨q1, fun g hg => ?_⟩
  rcases q1 with ⟨e, _⟩ | ⟨g', q⟩
  · rw [e] at hg; cases hg
  · have := Own.block q; rw [this] at hg; cases hg; exact hG _ q.lt (q2 _ (Own.block q))
theorem IsB.all (h : IsB G w b us) : ∃ m la, IsBag w b m la (us.map UEnc.frame) := by obtain ⟨m, la, h, _⟩ := h; exact ⟨m, la, h.all⟩
theorem b_new (w : World) (hG : Opn G w) : Calls Tryz.prog 28 #[] w fun e w' => ∃ b, e = .returned (.pointer (some ⟨b, 0, none⟩)) ∧ Kept [] w w' ∧ IsB G w' b [] ∧ w.heap.size ≤ b := by
  refine (new_callP G w).mono ?_
  rintro e w' ⟨b, m, rfl, k, h, h1, h2⟩
  exact ⟨b, rfl, k, ⟨m, none, h, hG _ h1, hG _ h2, fun g hg => by cases hg⟩, h1⟩
theorem b_len (h : IsB G w b us) : Calls Tryz.prog 47 #[.pointer (some ⟨b, 0, none⟩)] w fun e w' => e = .returned (.int .i64 (us.length : Nat)) ∧ w = w' := by
  obtain ⟨m, la, h⟩ := h.all
  have := len_call b m la _ w h
  rwa [List.length_map] at this
theorem b_get (h : IsB G w b us) (i : Nat) (hi : i < us.length) : Calls Tryz.prog 38 #[.pointer (some ⟨b, 0, none⟩), .int .i64 (i : Int)] w fun e w' => ∃ y, e = .returned (.tuple #[y, .int .i64 0]) ∧ Kept [] w w' ∧ Made w w' y (UEnc.frame (us.getD i TM.U.zero)) := by
  obtain ⟨m, la, h⟩ := h.all
  have := get_in b m la _ i w h (by simpa using hi)
  rwa [frames_at us i hi] at this
theorem b_out (h : IsB G w b us) (i : Int) (hi : i < 0 ∨ (us.length : Int) ≤ i) : Calls Tryz.prog 38 #[.pointer (some ⟨b, 0, none⟩), .int .i64 i] w fun e w' => e = .returned (.tuple #[.slice none 0 0, .int .i64 151]) ∧ Kept [] w w' := by
  obtain ⟨m, la, h⟩ := h.all
  exact get_out b m la _ i w h (by simpa using hi)
theorem b_put (hG : Opn G w) (h : IsB G w b us) (u : TM.U) (s : Value) (hs : Bytes w s (UEnc.frame u)) (hl : u.data.length ≤ 8) (hf : us.length < 4096) :
    Calls Tryz.prog 97 #[.pointer (some ⟨b, 0, none⟩), s] w fun e w' => e = .returned (.tuple #[.int .i64 (us.length : Nat), .int .i64 0]) ∧ KG G w w' ∧ IsB G w' b (us ++ [u]) := by
  obtain ⟨m, la, h, gb, gm, gl⟩ := h
  refine (put_callP G b m la _ s _ w (fun k hk => hG k hk) h hs (by rw [frame_len]; omega) (by simpa using hf)).mono ?_
  rintro e w' ⟨he, k, la', hla, h'⟩
  rw [List.length_map] at he
  refine ⟨he, .of k (fun i hi => ?_), m, la', by rw [List.map_append]; exact h', gb, gm, fun g hg => ?_⟩
  · simp at hi
    rcases hi with rfl | rfl | hi
    · exact gb
    · exact gm
    · exact gl i hi
  · rcases hla with rfl | ⟨g', e1, e2⟩
    · exact gl g hg
    · rw [e1] at hg; cases hg; exact hG _ e2
set_option maxRecDepth 100000 in
theorem b_gout (h : IsB G w b us) (i at' x : Int) (hi : i < 0 ∨ (us.length : Int) ≤ i) :
    Calls Tryz.prog 40 #[.pointer (some ⟨b, 0, none⟩), .int .i64 i, .int .i64 at', .int .u32 x] w fun e w' => e = .returned (.tuple #[.slice none 0 0, .int .i64 151]) ∧ Kept [] w w' := by
  have GC := hid (b_out h i hi)
  clear h hi
  go_enter Tryz.func40, Tryz.ntmps40
  go_wp2_with fail
  refine GC.out.mono ?_
  rintro e w1 ⟨rfl, k1⟩
  have K1 := hid k1
  clear k1
  go_wp2_with fail
  go_ret2
  exact ⟨rfl, K1.out⟩
set_option maxRecDepth 100000 in
theorem b_gbad (h : IsB G w b us) (i : Nat) (hi : i < us.length) (at' : Int) (x : Nat) (hx : x < 2 ^ 32) (hl : (us.getD i TM.U.zero).data.length ≤ 8) (hb : BuW.badBurst (UEnc.frame (us.getD i TM.U.zero)).length at' x) :
    Calls Tryz.prog 40 #[.pointer (some ⟨b, 0, none⟩), .int .i64 (i : Int), .int .i64 at', .int .u32 (x : Int)] w fun e w' => e = .returned (.tuple #[.slice none 0 0, .int .i64 30]) ∧ Kept [] w w' := by
  have GC := hid (b_get h i hi)
  have MC := hid (fun w => BuW.make_bad _ at' x hx (show (UEnc.frame (us.getD i TM.U.zero)).length ≤ 65536 by rw [frame_len]; omega) hb w)
  clear h hi hb
  generalize UEnc.frame (us.getD i TM.U.zero) = f at GC MC
  go_enter Tryz.func40, Tryz.ntmps40
  go_wp2_with fail
  refine GC.out.mono ?_
  rintro e w1 ⟨y, rfl, k1, m1⟩
  obtain ⟨p1, c1, rfl⟩ := m1.shape
  have K1 := hid k1
  clear k1 m1
  go_wp2_with fail
  refine (MC.out _).mono ?_
  rintro e w2 ⟨rfl, rfl⟩
  go_wp2_with fail
  go_ret2
  exact ⟨rfl, K1.out⟩
set_option maxRecDepth 100000 in
theorem b_garbled (h : IsB G w b us) (i : Nat) (hi : i < us.length) (at' x : Nat) (hx : x < 2 ^ 32) (hl : (us.getD i TM.U.zero).data.length ≤ 8) (hx0 : x ≠ 0) (hb : at' + Bu.len x ≤ 8 * (UEnc.frame (us.getD i TM.U.zero)).length) :
    Calls Tryz.prog 40 #[.pointer (some ⟨b, 0, none⟩), .int .i64 (i : Int), .int .i64 (at' : Int), .int .u32 (x : Int)] w fun e w' => ∃ y, e = .returned (.tuple #[y, .int .i64 0]) ∧ Kept [] w w' ∧ Made w w' y (Bu.xl (UEnc.frame (us.getD i TM.U.zero)) (Bu.bst (UEnc.frame (us.getD i TM.U.zero)).length at' x)) := by
  have GC := hid (b_get h i hi)
  have MC := hid (fun w => BuW.make_call (UEnc.frame (us.getD i TM.U.zero)).length at' x hx (by rw [frame_len]; omega) hx0 hb w)
  have FL := hid (show (UEnc.frame (us.getD i TM.U.zero)).length ≤ 1000000 by rw [frame_len]; omega)
  clear h hi hb
  generalize UEnc.frame (us.getD i TM.U.zero) = f at GC MC FL ⊢
  go_enter Tryz.func40, Tryz.ntmps40
  go_wp2_with fail
  refine GC.out.mono ?_
  rintro e w1 ⟨y, rfl, k1, m1⟩
  obtain ⟨p1, c1, rfl⟩ := m1.shape
  have K1 := hid k1
  have M1 := hid m1
  clear k1 m1
  go_wp2_with fail
  refine (MC.out _).mono ?_
  rintro e w2 ⟨v2, rfl, k2, m2⟩
  have K2 := hid (K1.out.trans k2)
  have B1 := hid ((M1.out.kept k2 (by simp)).bytes)
  have B2 := hid m2.bytes
  clear k2 m2
  go_wp2_with fail
  refine (BuW.turn_call _ _ _ _ _ B1.out B2.out (by rw [Bu.bst_length]) FL.out).mono ?_
  rintro e w3 ⟨v3, rfl, k3, m3⟩
  have K3 := hid (K2.out.trans k3)
  have M3 := hid m3
  have K2s := hid K2.out.size
  clear k3 m3
  go_wp2_with fail
  go_ret2
  exact ⟨_, rfl, K3.out, M3.out.1, fun k hk => Nat.le_trans K2s.out (M3.out.2 k hk)⟩
end BagC
end Go.Proofs.YtinaliblnihpbaaGreat

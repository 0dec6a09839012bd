/- crc's table engine: Sum. -/
import Derived.Test.YtcnlomknmhgpbaaTabD
import Derived.Test.YtcnlomknmhgpbaaSlC
namespace Go.Proofs.Ytcnlomknmhgpbaa.TabC
open Go Go.RowKit Go.Proofs.Ytcnlomknmhgpbaa.Hp Go.Proofs.Ytcnlomknmhgpbaa.Sl Go.Proofs.Ytcnlomknmhgpbaa.SlC Go.Proofs.Ytcnlomknmhgpbaa.Atom Go.Proofs.Ytcnlomknmhgpbaa.AtomC Go.Proofs.Ytcnlomknmhgpbaa.OnceC Go.Proofs.Ytcnlomknmhgpbaa.Gf
set_option linter.unusedVariables false
set_option linter.unusedSimpArgs false
theorem split24 (s : Nat) : s = (s / 2 ^ 24) * 2 ^ 24 ^^^ s % 2 ^ 24 := by
  rw [← add_eq_xor (Nat.mod_lt _ (by omega))]; omega
theorem stp_table (s c : Nat) (hs : s < 2 ^ 32) : stp s c = (s * 256 % 2 ^ 32) ^^^ stp 0 ((s / 2 ^ 24) ^^^ c) := by
  have e : (s ^^^ c * 2 ^ 24) * 2 ^ 8 = ((s / 2 ^ 24 ^^^ c) * 2 ^ 24) * 2 ^ 8 ^^^ (s % 2 ^ 24) * 2 ^ 8 := by
    rw [← xor_shift]
    congr 1
    rw [xor_shift]
    conv => lhs; rw [split24 s]
    rw [Nat.xor_assoc, Nat.xor_comm (s % 2 ^ 24), ← Nat.xor_assoc]
  have m : s * 256 % 2 ^ 32 = (s % 2 ^ 24) * 2 ^ 8 := by omega
  unfold stp
  rw [e, pm_xor G1 G2, pm_small G1 G2 (p := (s % 2 ^ 24) * 2 ^ 8) (by have := Nat.mod_lt s (show 0 < 2 ^ 24 by omega); omega), m, Nat.zero_xor, Nat.xor_comm]
theorem stp_lt (s c : Nat) : stp s c < 2 ^ 32 := pm_lt G1 G2 _
theorem trow_get (i : Nat) (h : i < 256) : (trow 256).getD i 0 = ((stp 0 i : Nat) : Int) := by
  simp [trow, List.getD_eq_getElem?_getD, List.getElem?_map, List.getElem?_range h, h]
theorem xor_byte {a b : Nat} (ha : a < 256) (hb : b < 256) : a ^^^ b < 256 := Nat.xor_lt_two_pow (n := 8) ha hb
/-- One byte more. -/
theorem next_ok {s : Nat} {l : List Int} {k : Nat} (h : crcFrom s (l.drop k) = crc l) (hb : By l) (hk : k < l.length) : crcFrom (stp s (l.getD k 0).toNat) (l.drop (k + 1)) = crc l := by
  rw [List.drop_eq_getElem_cons hk] at h
  have hd : By (l.drop (k + 1)) := fun x hx => hb x (List.mem_of_mem_drop hx)
  rw [crcFrom_cons _ _ hd] at h
  rw [List.getD_eq_getElem?_getD, List.getElem?_eq_getElem hk]
  exact h
theorem xor8 {a b : Nat} (ha : a < 256) (hb : b < 256) : bits .xor .u8 (a : Int) (b : Int) = ((a ^^^ b : Nat) : Int) := u8_xor_nat a b (by omega) (by omega)
def SumRel (W : World) (l : List Int) (v i : Value) (w : World) : Prop :=
  ∃ (k s : Nat) (ws : World), ws = w ∧ k ≤ l.length ∧ s < 2 ^ 32 ∧ v = .int .u32 (s : Nat) ∧ i = .int .i64 (k : Nat) ∧ crcFrom s (l.drop k) = crc l ∧ Kept [] W w
set_option maxRecDepth 100000 in
set_option maxHeartbeats 3200000 in
theorem sum_core (b : Nat) (v : Value) (l : List Int) (S : List Nat) (w : World) (hs : Bytes w v l) (hb : By l) (hl : l.length ≤ 1000000) (hn : ∀ x off n c, v = .slice (some ⟨x, off, none⟩) n c → l ≠ [] → x ∉ S)
    (hB : Calls Try.prog 46 #[.pointer (some ⟨b, 0, none⟩)] w fun e w' => e = .returned (.tuple #[]) ∧ Kept S w w' ∧ Has w' b 80 (tcells true 0 (trow 256) true)) :
    Calls Try.prog 29 #[.pointer (some ⟨b, 0, none⟩), v] w fun e w' => e = .returned (.tuple #[.int .u32 ((crc l : Nat) : Int), .int .i64 0]) ∧ Kept S w w' ∧ Has w' b 80 (tcells true 0 (trow 256) true) := by
  obtain ⟨sp, sc, rfl, hsc⟩ := sl_shape hs
  have SB := Lib.hid hs
  have YB := Lib.hid hb
  have LB := Lib.hid hl
  have HN := Lib.hid hn
  have HB := Lib.hid hB
  clear hs hb hl hn hB
  go_enter Try.func29, Try.ntmps29
  go_wp2_with fail
  refine HB.out.mono ?_
  rintro e w1 ⟨rfl, k1, h1⟩
  have K1 := Lib.hid k1
  have H1 := Lib.hid h1
  have S1 := Lib.hid (SB.out.kept k1 HN.out)
  clear k1 h1
  go_wp2_with fail
  go_loopw [6, 15] (SumRel w1 l) (fun _ i _ => l.length - (intOf i).toNat)
  case atStart => exact ⟨0, 0, w1, rfl, by omega, by omega, rfl, rfl, by rw [List.drop_zero, crcFrom_zero], Kept.refl _ _⟩
  case round =>
    obtain ⟨k, s, ws, rfl, hk, hs, rfl, rfl, hc, hK⟩ := hrel
    have HK := Lib.hid hK
    have HC := Lib.hid hc
    have HS := Lib.hid hs
    clear hK hc hs
    rcases Nat.lt_or_ge k l.length with hkn | hkn
    · obtain ⟨bb, boff, htp, qb⟩ := SlC.Bytes.at_ (S1.out.kept HK.out (by simp)) k hkn
      subst htp
      have l4 := LB.out
      have hnx := next_ok HC.out YB.out hkn
      obtain ⟨c, hc, hc8⟩ : ∃ c : Nat, l.getD k 0 = (c : Int) ∧ c < 256 := by
        have := YB.out (l.getD k 0) (by rw [List.getD_eq_getElem?_getD, List.getElem?_eq_getElem hkn]; exact List.getElem_mem hkn)
        exact ⟨(l.getD k 0).toNat, by omega, by omega⟩
      rw [hc] at qb hnx
      rw [Int.toNat_natCast] at hnx
      clear hc
      have hs := HS.out
      obtain ⟨i, hi⟩ : ∃ i : Nat, s / 2 ^ 24 ^^^ c = i := ⟨_, rfl⟩
      have hi8 : i < 256 := hi ▸ xor_byte (by omega) hc8
      have ei : bits .xor .u8 ((s : Int) / 16777216) (c : Int) = (i : Int) := by
        rw [show ((s : Int) / 16777216) = ((s / 2 ^ 24 : Nat) : Int) by omega, xor8 (by omega) hc8, hi]
      have q0 := (HK.out.has H1.out (by simp)).cell (3 + i) (tcells_row true 0 (trow 256) true i (by rw [trow_length]; exact hi8))
      rw [trow_get i hi8] at q0
      have er : bits .xor .u32 ((s : Int) * 256 % 4294967296) ((stp 0 i : Nat) : Int) = ((stp s c : Nat) : Int) := by
        rw [show ((s : Int) * 256 % 4294967296) = ((s * 256 % 2 ^ 32 : Nat) : Int) by omega, Bt.xor32 (Nat.mod_lt _ (by omega)) (stp_lt _ _), stp_table s c hs, hi]
      have hlt := stp_lt s c
      generalize stp 0 i = r at q0 er
      generalize stp s c = t at hnx er hlt
      have NX := Lib.hid hnx
      have TL := Lib.hid hlt
      clear hnx hlt hi
      go_wp2_with fail
      go_roundw
      case rel => exact ⟨k + 1, t, ws, rfl, by omega, TL.out, rfl, by go_num, NX.out, HK.out⟩
      case measure => simp [intOf]; omega
    · obtain rfl : k = l.length := by omega
      have e := HC.out
      rw [List.drop_length, crcFrom_nil HS.out] at e
      subst e
      go_wp2_with fail
      go_ret2
      exact ⟨rfl, K1.out.trans (HK.out.mono (by simp)), HK.out.has H1.out (by simp)⟩
/-- Sum at a table that was not used yet. -/
theorem sum_first (b : Nat) (v : Value) (l : List Int) (w : World) (hs : Bytes w v l) (hb : By l) (hl : l.length ≤ 1000000) (hn : ∀ x off n c, v = .slice (some ⟨x, off, none⟩) n c → l ≠ [] → x ∉ [b])
    (h : Has w b 80 (tcells false 0 (List.replicate 256 0) false)) :
    Calls Try.prog 29 #[.pointer (some ⟨b, 0, none⟩), v] w fun e w' => e = .returned (.tuple #[.int .u32 ((crc l : Nat) : Int), .int .i64 0]) ∧ Kept [b] w w' ∧ Has w' b 80 (tcells true 0 (trow 256) true) :=
  sum_core b v l [b] w hs hb hl hn (build_first b w h)
theorem sum_again (b : Nat) (v : Value) (l : List Int) (w : World) (hs : Bytes w v l) (hb : By l) (hl : l.length ≤ 1000000) (h : Has w b 80 (tcells true 0 (trow 256) true)) :
    Calls Try.prog 29 #[.pointer (some ⟨b, 0, none⟩), v] w fun e w' => e = .returned (.tuple #[.int .u32 ((crc l : Nat) : Int), .int .i64 0]) ∧ Kept [] w w' ∧ Has w' b 80 (tcells true 0 (trow 256) true) :=
  sum_core b v l [] w hs hb hl (by simp) ((build_again b (trow 256) true w h).mono fun e w' q => ⟨q.1, q.2, q.2.has h (by simp)⟩)
theorem sum_nil (v : Value) (w : World) : Calls Try.prog 29 #[.pointer none, v] w fun e w' => e = .returned (.tuple #[.int .u32 0, .int .i64 1]) ∧ Kept [] w w' := by
  have K0 := Lib.hid (Kept.refl [] w)
  go_enter Try.func29, Try.ntmps29
  go_wp2_with fail
  go_ret2
  exact ⟨rfl, by first | exact K0.out | exact K0.out.drew | exact K0.out.drewN _⟩
end Go.Proofs.Ytcnlomknmhgpbaa.TabC

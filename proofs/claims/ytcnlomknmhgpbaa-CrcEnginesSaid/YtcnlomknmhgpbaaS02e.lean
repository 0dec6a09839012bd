/- Layer 2: the law CrcEngines. -/
import Derived.Test.YtcnlomknmhgpbaaSlcS
import Derived.Test.YtcnlomknmhgpbaaBrT
import Derived.Test.YtcnlomknmhgpbaaSlC
import Derived.Test.YtcnlomknmhgpbaaFit
import Derived.Test.YtcnlomknmhgpbaaS02b
namespace Go.Proofs.Ytcnlomknmhgpbaa.S02e
open Go Go.RowKit Go.Proofs.Ytcnlomknmhgpbaa.Hp Go.Proofs.Ytcnlomknmhgpbaa.Sl Go.Proofs.Ytcnlomknmhgpbaa.SlC Go.Proofs.Ytcnlomknmhgpbaa.BrS Go.Proofs.Ytcnlomknmhgpbaa.BrT Go.Proofs.Ytcnlomknmhgpbaa.Fit
open Go.Proofs.Ytcnlomknmhgpbaa.TabC (tcells trow trow_length)
open Go.Proofs.Ytcnlomknmhgpbaa.SlcA (srow srow_length)
open Go.Proofs.Ytcnlomknmhgpbaa.S02b (bytes_below bytes_on by_of)
set_option linter.unusedVariables false
set_option linter.unusedSimpArgs false
/-- the table engine at T, used or not; the other at S -/
def TAny (w : World) (T : Nat) : Prop := Has w T 80 (tcells false 0 (List.replicate 256 0) false) ∨ Has w T 80 (tcells true 0 (trow 256) true)
def SAny (w : World) (S : Nat) : Prop := Has w S 83 (tcells false 0 (List.replicate 1024 0) false) ∨ Has w S 83 (tcells true 0 (srow 1024) true)
theorem TAny.kept {w w' : World} {T : Nat} {L : List Nat} (h : TAny w T) (k : Kept L w w') (hn : T ∉ L) : TAny w' T := h.imp (fun h => k.has h hn) (fun h => k.has h hn)
theorem SAny.kept {w w' : World} {T : Nat} {L : List Nat} (h : SAny w T) (k : Kept L w w') (hn : T ∉ L) : SAny w' T := h.imp (fun h => k.has h hn) (fun h => k.has h hn)
theorem tsum_any (b : Nat) (v : Value) (l : List Int) (w : World) (hs : Bytes w v l) (hb : Gf.By l) (hl : l.length ≤ 1000000) (hn : ∀ x off n c, v = .slice (some ⟨x, off, none⟩) n c → l ≠ [] → x ∉ [b]) (h : TAny w b) :
    Calls Try.prog 29 #[.pointer (some ⟨b, 0, none⟩), v] w fun e w' => e = .returned (.tuple #[.int .u32 ((Gf.crc l : Nat) : Int), .int .i64 0]) ∧ Kept [b] w w' ∧ TAny w' b := by
  rcases h with h | h
  · exact (TabC.sum_first b v l w hs hb hl hn h).mono fun e w' q => ⟨q.1, q.2.1, .inr q.2.2⟩
  · exact (TabC.sum_again b v l w hs hb hl h).mono fun e w' q => ⟨q.1, q.2.1.mono (by simp), .inr q.2.2⟩
theorem ssum_any (b : Nat) (v : Value) (l : List Int) (w : World) (hs : Bytes w v l) (hb : Gf.By l) (hl : l.length ≤ 1000000) (hn : ∀ x off n c, v = .slice (some ⟨x, off, none⟩) n c → l ≠ [] → x ∉ [b]) (h : SAny w b) :
    Calls Try.prog 30 #[.pointer (some ⟨b, 0, none⟩), v] w fun e w' => e = .returned (.tuple #[.int .u32 ((Gf.crc l : Nat) : Int), .int .i64 0]) ∧ Kept [b] w w' ∧ SAny w' b := by
  rcases h with h | h
  · exact (SlcA.sum_first b v l w hs hb hl hn h).mono fun e w' q => ⟨q.1, q.2.1, .inr q.2.2⟩
  · exact (SlcA.sum_again b v l w hs hb hl h).mono fun e w' q => ⟨q.1, q.2.1.mono (by simp), .inr q.2.2⟩
def EngRel (W : World) (T S : Nat) (i : Value) (w : World) : Prop :=
  ∃ (k : Nat) (ws : World), ws = w ∧ k ≤ 2 ∧ i = .int .i64 (k : Nat) ∧ Kept [T, S] W w ∧ TAny w T ∧ SAny w S
set_option maxRecDepth 100000 in
set_option maxHeartbeats 3200000 in
theorem CrcEngines_walk (s t : Value) (a b : List Int) (w : World) (ha : Bytes w s a) (hb : Bytes w t b) (ya : Gf.By a) (yb : Gf.By b) (la : a.length ≤ 4000) (lb : b.length ≤ 4000) :
    Calls Try.prog 10 #[s, t] w fun e w' => e = .returned (.bool true) ∧ Below w.heap.size w w' := by
  obtain ⟨sp, sc, rfl, hsc⟩ := sl_shape ha
  obtain ⟨tp, tc, rfl, htc⟩ := sl_shape hb
  have e1 : decide ((a.length : Int) > 4000) = false := by simp; omega
  have e2 : decide ((b.length : Int) > 4000) = false := by simp; omega
  have SA := Lib.hid ha
  have SB := Lib.hid hb
  have YA := Lib.hid ya
  have YB := Lib.hid yb
  have LA := Lib.hid la
  have LB := Lib.hid lb
  clear ha hb ya yb la lb
  go_enter Try.func10, Try.ntmps10
  go_wp2_with fail
  refine (awake_call _).mono ?_
  rintro e w0 ⟨rfl, k0⟩
  have K0 := Lib.hid k0
  clear k0
  go_wp2_with fail
  refine (TabC.new_call _).mono ?_
  rintro e w1 ⟨rfl, k1, h1⟩
  have hlT := K0.out.size
  generalize w0.heap.size = T at h1 hlT ⊢
  go_wp2_with fail
  refine (SlcA.new_call _).mono ?_
  rintro e w2 ⟨rfl, k2, h2⟩
  have hT1 := h1.lt
  have hlS : w.heap.size ≤ w1.heap.size := by omega
  have nTS : T ≠ w1.heap.size := by omega
  have HT := Lib.hid (show TAny w2 T from .inl (k2.has h1 (by simp)))
  generalize w1.heap.size = S at h2 hlS nTS ⊢
  have HS := Lib.hid (show SAny w2 S from .inl h2)
  have K2 := Lib.hid ((K0.out.trans k1).trans k2)
  clear K0 k1 k2 h1 h2 hT1
  go_wp2_with fail
  have KK := Lib.hid (Kept.refl [T, S] w2)
  go_loopw [7] (EngRel w2 T S) (fun i _ => 2 - (intOf i).toNat)
  case atStart => exact ⟨0, w2, rfl, by omega, rfl, KK.out, HT.out, HS.out⟩
  case round =>
    clear HT HS KK
    obtain ⟨k, ws, rfl, hk, rfl, hK, hT, hS⟩ := hrel
    have HK := Lib.hid hK
    have HT := Lib.hid hT
    have HS := Lib.hid hS
    clear hK hT hS
    rcases Nat.lt_or_ge k 2 with hkn | hkn
    · have ek : decide ((k : Int) < 2) = true := decide_eq_true (by omega)
      go_wp2_with fail
      clear ek
      have hG := Has.new ws 22 [.slice sp a.length sc, .slice tp b.length tc]
      have ka := HK.out.alloc (.cells #[.slice sp a.length sc, .slice tp b.length tc] 22)
      have tA := HT.out.kept ((Kept.refl [] ws).alloc (.cells #[.slice sp a.length sc, .slice tp b.length tc] 22)) (by simp)
      have sA := HS.out.kept ((Kept.refl [] ws).alloc (.cells #[.slice sp a.length sc, .slice tp b.length tc] 22)) (by simp)
      have hGT : ws.heap.size ≠ T := fun e => by rcases HT.out with h | h <;> · have := h.lt; omega
      have hGS : ws.heap.size ≠ S := fun e => by rcases HS.out with h | h <;> · have := h.lt; omega
      clear HK HT HS
      change Code.wp _ _ _ _ (ws.alloc (.cells [Value.slice sp a.length sc, Value.slice tp b.length tc].toArray 22))
      generalize ws.alloc (.cells [Value.slice sp a.length sc, Value.slice tp b.length tc].toArray 22) = wG at hG ka tA sA ⊢
      generalize ws.heap.size = G at hG hGT hGS ⊢
      have GG := Lib.hid hG
      have KG := Lib.hid ka
      have TG := Lib.hid tA
      have SG := Lib.hid sA
      clear hG ka tA sA
      go_loopw [41] (EngRel wG T S) (fun i _ => 2 - (intOf i).toNat)
      case atStart => exact ⟨0, wG, rfl, by omega, rfl, Kept.refl _ _, TG.out, SG.out⟩
      case round =>
        obtain ⟨j, wt, rfl, hj, rfl, jK, jT, jS⟩ := hrel
        have HG := Lib.hid (jK.has GG.out (by simp; exact ⟨hGT, hGS⟩))
        have KT := Lib.hid (KG.out.trans jK)
        have JK := Lib.hid jK
        have JT := Lib.hid jT
        have JS := Lib.hid jS
        clear jK jT jS
        rcases Nat.lt_or_ge j 2 with hjn | hjn
        · obtain rfl | rfl : j = 0 ∨ j = 1 := by omega
          · have q0 := HG.out.cell 0 (v := .slice sp a.length sc) rfl
            have by0 := bytes_on SA.out K2.out KT.out hlT hlS
            have hn0 := fun L (hL : ∀ i, i ∈ L → w.heap.size ≤ i) x off n c (e : Value.slice sp a.length sc = .slice (some ⟨x, off, none⟩) n c) (hl : a ≠ []) => (fun hm => absurd (hL x hm) (Nat.not_le_of_lt (bytes_below SA.out e hl)) : x ∉ (L : List Nat))
            have B0 := Lib.hid by0
            have N0 := Lib.hid hn0
            clear by0 hn0
            go_wp2_with fail
            refine (rsum_call _ a _ B0.out YA.out (by have := LA.out; omega)).mono ?_
            rintro e w5 ⟨rfl, k5⟩
            have B5 := Lib.hid (B0.out.kept k5 (by simp))
            have T5 := Lib.hid (JT.out.kept k5 (by simp))
            have S5 := Lib.hid (JS.out.kept k5 (by simp))
            have K5 := Lib.hid (JK.out.trans (k5.mono (by simp)))
            clear k5 q0
            go_wp2_with fail
            refine (tsum_any T _ a _ B5.out YA.out (by have := LA.out; omega) (N0.out [T] (by simp; exact hlT)) T5.out).mono ?_
            rintro e w6 ⟨rfl, k6, t6⟩
            have B6 := Lib.hid (B5.out.kept k6 (N0.out [T] (by simp; exact hlT)))
            have T6 := Lib.hid t6
            have S6 := Lib.hid (S5.out.kept k6 (by simp; exact fun e => nTS e.symm))
            have K6 := Lib.hid (K5.out.trans (k6.mono (by simp)))
            clear k6 t6
            go_wp2_with fail
            refine (ssum_any S _ a _ B6.out YA.out (by have := LA.out; omega) (N0.out [S] (by simp; exact hlS)) S6.out).mono ?_
            rintro e w7 ⟨rfl, k7, s7⟩
            have B7 := Lib.hid (B6.out.kept k7 (N0.out [S] (by simp; exact hlS)))
            have S7 := Lib.hid s7
            have T7 := Lib.hid (T6.out.kept k7 (by simp; exact nTS))
            have K7 := Lib.hid (K6.out.trans (k7.mono (by simp)))
            clear k7 s7
            go_wp2_with fail
            refine (bits_call _ a _ B7.out YA.out (by have := LA.out; omega)).mono ?_
            rintro e w8 ⟨rfl, n8, rfl⟩
            go_wp2_with fail
            go_roundw
            case rel => exact ⟨0 + 1, _, rfl, by omega, rfl, K7.out.drewN _, T7.out.kept ((Kept.refl [] _).drewN _) (by simp), S7.out.kept ((Kept.refl [] _).drewN _) (by simp)⟩
            case measure => simp [intOf]
          · have q0 := HG.out.cell 1 (v := .slice tp b.length tc) rfl
            have by0 := bytes_on SB.out K2.out KT.out hlT hlS
            have hn0 := fun L (hL : ∀ i, i ∈ L → w.heap.size ≤ i) x off n c (e : Value.slice tp b.length tc = .slice (some ⟨x, off, none⟩) n c) (hl : b ≠ []) => (fun hm => absurd (hL x hm) (Nat.not_le_of_lt (bytes_below SB.out e hl)) : x ∉ (L : List Nat))
            have B0 := Lib.hid by0
            have N0 := Lib.hid hn0
            clear by0 hn0
            go_wp2_with fail
            refine (rsum_call _ b _ B0.out YB.out (by have := LB.out; omega)).mono ?_
            rintro e w5 ⟨rfl, k5⟩
            have B5 := Lib.hid (B0.out.kept k5 (by simp))
            have T5 := Lib.hid (JT.out.kept k5 (by simp))
            have S5 := Lib.hid (JS.out.kept k5 (by simp))
            have K5 := Lib.hid (JK.out.trans (k5.mono (by simp)))
            clear k5 q0
            go_wp2_with fail
            refine (tsum_any T _ b _ B5.out YB.out (by have := LB.out; omega) (N0.out [T] (by simp; exact hlT)) T5.out).mono ?_
            rintro e w6 ⟨rfl, k6, t6⟩
            have B6 := Lib.hid (B5.out.kept k6 (N0.out [T] (by simp; exact hlT)))
            have T6 := Lib.hid t6
            have S6 := Lib.hid (S5.out.kept k6 (by simp; exact fun e => nTS e.symm))
            have K6 := Lib.hid (K5.out.trans (k6.mono (by simp)))
            clear k6 t6
            go_wp2_with fail
            refine (ssum_any S _ b _ B6.out YB.out (by have := LB.out; omega) (N0.out [S] (by simp; exact hlS)) S6.out).mono ?_
            rintro e w7 ⟨rfl, k7, s7⟩
            have B7 := Lib.hid (B6.out.kept k7 (N0.out [S] (by simp; exact hlS)))
            have S7 := Lib.hid s7
            have T7 := Lib.hid (T6.out.kept k7 (by simp; exact nTS))
            have K7 := Lib.hid (K6.out.trans (k7.mono (by simp)))
            clear k7 s7
            go_wp2_with fail
            refine (bits_call _ b _ B7.out YB.out (by have := LB.out; omega)).mono ?_
            rintro e w8 ⟨rfl, n8, rfl⟩
            go_wp2_with fail
            go_roundw
            case rel => exact ⟨1 + 1, _, rfl, by omega, rfl, K7.out.drewN _, T7.out.kept ((Kept.refl [] _).drewN _) (by simp), S7.out.kept ((Kept.refl [] _).drewN _) (by simp)⟩
            case measure => simp [intOf]
        · obtain rfl : j = 2 := by omega
          go_wp2_with fail
          go_roundw
          case rel => exact ⟨k + 1, _, rfl, by omega, by go_num, KT.out, JT.out, JS.out⟩
          case measure => simp [intOf]; omega
    · obtain rfl : k = 2 := by omega
      go_wp2_with fail
      go_ret
      exact ⟨rfl, below_kept (K2.out.toBelow (by simp)) HK.out (by simp; omega)⟩
set_option maxRecDepth 100000 in
theorem CrcEngines_skip (s t : Value) (a b : List Int) (w : World) (ha : Bytes w s a) (hb : Bytes w t b) (h : 4000 < a.length ∨ 4000 < b.length) :
    Calls Try.prog 10 #[s, t] w fun e w' => e = .returned (.bool true) ∧ Below w.heap.size w w' := by
  obtain ⟨sp, sc, rfl, _⟩ := sl_shape ha
  obtain ⟨tp, tc, rfl, _⟩ := sl_shape hb
  by_cases h1 : 4000 < a.length
  · have e1 : decide ((a.length : Int) > 4000) = true := by simp; omega
    clear ha hb h h1
    go_enter Try.func10, Try.ntmps10
    go_wp2_with fail
    refine (awake_call _).mono ?_
    rintro e w0 ⟨rfl, k0⟩
    go_wp2_with fail
    go_ret
    exact ⟨rfl, k0.toBelow (by simp)⟩
  · have e1 : decide ((a.length : Int) > 4000) = false := by simp; omega
    have e2 : decide ((b.length : Int) > 4000) = true := by simp; omega
    clear ha hb h h1
    go_enter Try.func10, Try.ntmps10
    go_wp2_with fail
    refine (awake_call _).mono ?_
    rintro e w0 ⟨rfl, k0⟩
    go_wp2_with fail
    go_ret
    exact ⟨rfl, k0.toBelow (by simp)⟩
theorem CrcEngines_law (x : Option Addr) (len cap : Nat) (y : Option Addr) (len2 cap2 : Nat) (w : World) (hf : ∃ n, Fits Try.prog w n 22 [.slice x len cap]) (hg : ∃ n, Fits Try.prog w n 22 [.slice y len2 cap2]) :
    Calls Try.prog 10 #[.slice x len cap, .slice y len2 cap2] w fun e w' => e = .returned (.bool true) ∧ Below w.heap.size w w' := by
  obtain ⟨n, hf⟩ := hf
  obtain ⟨n2, hg⟩ := hg
  obtain ⟨a, rfl, ha, _, wa⟩ := bytes_of_fits hf
  obtain ⟨b, rfl, hb, _, wb⟩ := bytes_of_fits hg
  by_cases h : a.length ≤ 4000 ∧ b.length ≤ 4000
  · exact CrcEngines_walk _ _ a b w ha hb (by_of wa) (by_of wb) h.1 h.2
  · exact CrcEngines_skip _ _ a b w ha hb (by omega)
end Go.Proofs.Ytcnlomknmhgpbaa.S02e

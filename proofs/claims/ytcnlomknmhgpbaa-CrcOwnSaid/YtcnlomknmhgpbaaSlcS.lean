/- crc's engine of four tables: Sum. -/
import Derived.Test.YtcnlomknmhgpbaaSlcP
import Derived.Deep.QuietTactic
namespace Go.Proofs.Ytcnlomknmhgpbaa.SlcA
open Go Go.RowKit Go.Proofs.Ytcnlomknmhgpbaa.Hp Go.Proofs.Ytcnlomknmhgpbaa.Sl Go.Proofs.Ytcnlomknmhgpbaa.SlC Go.Proofs.Ytcnlomknmhgpbaa.Atom Go.Proofs.Ytcnlomknmhgpbaa.AtomC Go.Proofs.Ytcnlomknmhgpbaa.OnceC Go.Proofs.Ytcnlomknmhgpbaa.Gf
open Go.Proofs.Ytcnlomknmhgpbaa.TabC (tcells U32 stp_lt tcells_row next_ok xor8 xor_byte stp_table SumRel)
set_option linter.unusedVariables false
set_option linter.unusedSimpArgs false
/-- what is left of the bytes, and the sum so far -/
def FourRel (W : World) (l : List Int) (x v : Value) (w : World) : Prop :=
  ∃ (r : List Int) (s : Nat) (ws : World), ws = w ∧ Bytes W x r ∧ By r ∧ r.length ≤ l.length ∧ s < 2 ^ 32 ∧ v = .int .u32 (s : Nat) ∧ crcFrom s r = crc l ∧ Kept [] W w
theorem next_to {s T : Nat} {l : List Int} {k : Nat} (h : crcFrom s (l.drop k) = T) (hb : By l) (hk : k < l.length) : crcFrom (stp s (l.getD k 0).toNat) (l.drop (k + 1)) = T := by
  rw [List.drop_eq_getElem_cons hk] at h
  have hd : By (l.drop (k + 1)) := fun x hx => hb x (List.mem_of_mem_drop hx)
  rw [crcFrom_cons _ _ hd] at h
  rw [List.getD_eq_getElem?_getD, List.getElem?_eq_getElem hk]
  exact h
def TailRel (W : World) (r : List Int) (T : Nat) (v i : Value) (w : World) : Prop :=
  ∃ (k s : Nat) (ws : World), ws = w ∧ k ≤ r.length ∧ s < 2 ^ 32 ∧ v = .int .u32 (s : Nat) ∧ i = .int .i64 (k : Nat) ∧ crcFrom s (r.drop k) = T ∧ Kept [] W w
theorem by_nat {x : Int} {l : List Int} (h : By (x :: l)) : (∃ n : Nat, x = (n : Int) ∧ n < 256) ∧ By l := by
  have := h x (List.mem_cons_self ..)
  exact ⟨⟨x.toNat, by omega, by omega⟩, fun y hy => h y (List.mem_cons_of_mem _ hy)⟩
theorem four_by {a b c d : Int} {l : List Int} (h : By (a :: b :: c :: d :: l)) : (∃ n : Nat, a = (n : Int) ∧ n < 256) ∧ (∃ n : Nat, b = (n : Int) ∧ n < 256) ∧ (∃ n : Nat, c = (n : Int) ∧ n < 256) ∧ (∃ n : Nat, d = (n : Int) ∧ n < 256) ∧ By l :=
  ⟨(by_nat h).1, (by_nat (by_nat h).2).1, (by_nat (by_nat (by_nat h).2).2).1, (by_nat (by_nat (by_nat (by_nat h).2).2).2).1, (by_nat (by_nat (by_nat (by_nat h).2).2).2).2⟩
theorem tail4 {W : World} {bb boff c : Nat} {n0 n1 n2 n3 : Int} {r : List Int} (h : Bytes W (.slice (some ⟨bb, boff, none⟩) (n0 :: n1 :: n2 :: n3 :: r).length c) (n0 :: n1 :: n2 :: n3 :: r)) :
    Bytes W (.slice (if c = 4 then some ⟨bb, boff, none⟩ else some ⟨bb, boff + 4, none⟩) r.length (c - 4)) r := by
  rcases h with ⟨e, _⟩ | ⟨x, cap, e, h1, h2, h3⟩
  · simp at e
  · obtain ⟨rfl, rfl⟩ : (⟨bb, boff, none⟩ : Addr) = x ∧ c = cap := by simpa using e
    rcases h3 with h3 | ⟨b, off, e2, hb, h4⟩
    · simp at h3
    · cases e2
      simp only [List.length_cons] at h1
      by_cases hc : c = 4
      · have hr : r = [] := List.eq_nil_of_length_eq_zero (by omega)
        subst hr
        exact .inr ⟨⟨bb, boff, none⟩, c - 4, by rw [if_pos hc], by simp, by omega, .inl rfl⟩
      · refine .inr ⟨⟨bb, boff + 4, none⟩, c - 4, by rw [if_neg hc], by omega, by omega, .inr ⟨bb, boff + 4, rfl, hb, fun i hi => ?_⟩⟩
        have := h4 (i + 4) (by simp; omega)
        rw [show boff + 4 + i = boff + (i + 4) by omega, this]
        rfl
theorem four_of {r : List Int} (h : 4 ≤ r.length) : ∃ c0 c1 c2 c3 r', r = c0 :: c1 :: c2 :: c3 :: r' := by
  match r, h with
  | c0 :: c1 :: c2 :: c3 :: r', _ => exact ⟨_, _, _, _, _, rfl⟩
set_option maxRecDepth 100000 in
set_option maxHeartbeats 800000 in
theorem sum_core (b : Nat) (v : Value) (l : List Int) (S : List Nat) (w : World) (hs : Bytes w v l) (hb : By l) (hl : l.length ≤ 1000000) (hn : ∀ x off n c, v = .slice (some ⟨x, off, none⟩) n c → l ≠ [] → x ∉ S)
    (hB : Calls Try.prog 47 #[.pointer (some ⟨b, 0, none⟩)] w fun e w' => e = .returned (.tuple #[]) ∧ Kept S w w' ∧ Has w' b 83 (tcells true 0 (srow 1024) true)) :
    Calls Try.prog 30 #[.pointer (some ⟨b, 0, none⟩), v] w fun e w' => e = .returned (.tuple #[.int .u32 ((crc l : Nat) : Int), .int .i64 0]) ∧ Kept S w w' ∧ Has w' b 83 (tcells true 0 (srow 1024) true) := by
  obtain ⟨sp, sc, rfl, hsc⟩ := sl_shape hs
  have SB := Lib.hid hs
  have YB := Lib.hid hb
  have LB := Lib.hid hl
  have HN := Lib.hid hn
  have HB := Lib.hid hB
  clear hs hb hl hn hB
  go_enter Try.func30, Try.ntmps30
  go_wp2_with fail
  refine HB.out.mono ?_
  rintro e w1 ⟨rfl, k1, h1⟩
  have K1 := Lib.hid k1
  have H1 := Lib.hid h1
  have S1 := Lib.hid (SB.out.kept k1 HN.out)
  clear k1 h1
  go_wp2_with fail
  go_loopw [1, 6] (FourRel w1 l) (fun x _ _ => match x with | .slice _ n _ => n | _ => 0)
  case atStart => exact ⟨l, 0, w1, rfl, S1.out, YB.out, Nat.le_refl _, by omega, rfl, crcFrom_zero l, Kept.refl _ _⟩
  case round =>
    obtain ⟨r, s, ws, rfl, hr, yr, lr, hs, rfl, hc, hK⟩ := hrel
    obtain ⟨p, c, rfl, hpc⟩ := sl_shape hr
    have HK := Lib.hid hK
    have HC := Lib.hid hc
    have HS := Lib.hid hs
    have HR := Lib.hid hr
    have HR1 := Lib.hid (show Bytes w1 (.slice p r.length c) r from hr)
    have YR := Lib.hid yr
    have l4 := LB.out
    clear hK hc hr yr hs
    by_cases h4 : 4 ≤ r.length
    · have hge : decide ((r.length : Int) ≥ 4) = true := by simp; omega
      obtain ⟨c0, c1, c2, c3, r', rfl⟩ : ∃ c0 c1 c2 c3 r', r = c0 :: c1 :: c2 :: c3 :: r' := four_of h4
      have rd := fun i hi => SlC.Bytes.at_ (HR1.out.kept HK.out (by simp)) i hi
      obtain ⟨bb, boff, htp, q0⟩ := rd 0 (by simp)
      obtain ⟨_, _, e1, q1⟩ := rd 1 (by simp)
      obtain ⟨_, _, e2, q2⟩ := rd 2 (by simp)
      obtain ⟨_, _, e3, q3⟩ := rd 3 (by simp)
      subst htp
      cases e1
      cases e2
      cases e3
      clear rd
      obtain ⟨y0, y1, y2, y3, yr⟩ := four_by YR.out
      obtain ⟨n0, rfl, m0⟩ := y0
      obtain ⟨n1, rfl, m1⟩ := y1
      obtain ⟨n2, rfl, m2⟩ := y2
      obtain ⟨n3, rfl, m3⟩ := y3
      have HC4 := HC.out
      rw [crcFrom_four s n0 n1 n2 n3 r' m0 m1 m2 m3 yr] at HC4
      replace q0 : ws.cell? ⟨bb, boff, none⟩ = some (.int .u8 (n0 : Int)) := q0
      replace q1 : ws.cell? ⟨bb, boff + 1, none⟩ = some (.int .u8 (n1 : Int)) := q1
      replace q2 : ws.cell? ⟨bb, boff + 2, none⟩ = some (.int .u8 (n2 : Int)) := q2
      replace q3 : ws.cell? ⟨bb, boff + 3, none⟩ = some (.int .u8 (n3 : Int)) := q3
      have hs := HS.out
      have hg0 : 0 < c := by simp at hpc; omega
      have hg1 : 1 < c := by simp at hpc; omega
      have hg2 : 2 < c := by simp at hpc; omega
      have hg3 : 3 < c := by simp at hpc; omega
      go_wp2_with fail
      go_quiet (fail)
      rw [word_bits m0 m1 m2 m3, Bt.xor32 hs (word_lt m0 m1 m2 m3)]
      have hx : s ^^^ word n0 n1 n2 n3 < 2 ^ 32 := Nat.xor_lt_two_pow hs (word_lt m0 m1 m2 m3)
      generalize s ^^^ word n0 n1 n2 n3 = x at HC4 hx ⊢
      obtain ⟨i3, hi3, b3⟩ : ∃ i : Nat, x / 2 ^ 24 = i ∧ i < 256 := ⟨_, rfl, by omega⟩
      obtain ⟨i2, hi2, b2⟩ : ∃ i : Nat, x / 2 ^ 16 % 256 = i ∧ i < 256 := ⟨_, rfl, by omega⟩
      obtain ⟨i1, hi1, b1⟩ : ∃ i : Nat, x / 2 ^ 8 % 256 = i ∧ i < 256 := ⟨_, rfl, by omega⟩
      obtain ⟨i0, hi0, b0⟩ : ∃ i : Nat, x % 256 = i ∧ i < 256 := ⟨_, rfl, by omega⟩
      have f3 : (x : Int) / 16777216 = (i3 : Int) := by omega
      have f2 : bits .and .u32 ((x : Int) / 65536) 255 = (i2 : Int) := by
        rw [show (x : Int) / 65536 = ((x / 2 ^ 16 : Nat) : Int) by omega, and_byte (by omega), hi2]
      have f1 : bits .and .u32 ((x : Int) / 256) 255 = (i1 : Int) := by
        rw [show (x : Int) / 256 = ((x / 2 ^ 8 : Nat) : Int) by omega, and_byte (by omega), hi1]
      have f0 : bits .and .u32 (x : Int) 255 = (i0 : Int) := by rw [and_byte hx, hi0]
      have cl := fun k i (hk : k < 4) (hi : i < 256) => (HK.out.has H1.out (by simp)).cell (3 + (256 * k + i)) (tcells_row true 0 (srow 1024) true (256 * k + i) (by rw [srow_length]; omega))
      have g3 := cl 3 i3 (by omega) b3
      have g2 := cl 2 i2 (by omega) b2
      have g1 := cl 1 i1 (by omega) b1
      have g0 := cl 0 i0 (by omega) b0
      rw [srow_get 3 i3 (by omega) b3, show 3 + (256 * 3 + i3) = 771 + i3 by omega] at g3
      rw [srow_get 2 i2 (by omega) b2, show 3 + (256 * 2 + i2) = 515 + i2 by omega] at g2
      rw [srow_get 1 i1 (by omega) b1, show 3 + (256 * 1 + i1) = 259 + i1 by omega] at g1
      rw [srow_get 0 i0 (by omega) b0, show 3 + (256 * 0 + i0) = 3 + i0 by omega] at g0
      have ht := tables_xor x
      rw [hi3, hi2, hi1, hi0] at ht
      have t3 := tk_lt 3 i3
      have t2 := tk_lt 2 i2
      have t1 := tk_lt 1 i1
      have t0 := tk_lt 0 i0
      generalize tk 3 i3 = z3 at g3 ht t3
      generalize tk 2 i2 = z2 at g2 ht t2
      generalize tk 1 i1 = z1 at g1 ht t1
      generalize tk 0 i0 = z0 at g0 ht t0
      have s1 := Bt.xor32 t3 t2
      have s2 := Bt.xor32 (Nat.xor_lt_two_pow t3 t2) t1
      have s3 := Bt.xor32 (Nat.xor_lt_two_pow (Nat.xor_lt_two_pow t3 t2) t1) t0
      rw [ht] at s3
      rw [← ht] at s3
      clear hi3 hi2 hi1 hi0 cl q0 q1 q2 q3
      go_wp2_with fail
      go_quiet (fail)
      have hlt : pm G 32 (x * 4294967296) < 2 ^ 32 := pm_lt G1 G2 _
      replace HC4 : crcFrom (pm G 32 (x * 4294967296)) r' = crc l := HC4
      generalize pm G 32 (x * 4294967296) = u at HC4 hlt ⊢
      clear s1 s2 s3 ht g3 g2 g1 g0 f3 f2 f1 f0 t3 t2 t1 t0 hs
      go_wp2_with fail
      refine ⟨⟨r', u, _, rfl, tail4 HR1.out, yr, by simp at lr; omega, hlt, rfl, HC4, HK.out.drewN _⟩, ?_⟩
      show r'.length < r'.length + 1 + 1 + 1 + 1
      omega
    · have hge : decide ((r.length : Int) ≥ 4) = false := by simp; omega
      go_wp2_with fail
      clear hge h4
      go_loopw [6, 82] (TailRel w1 r (crc l)) (fun _ i _ => r.length - (intOf i).toNat)
      case atStart => exact ⟨0, s, _, rfl, by omega, HS.out, rfl, rfl, by rw [List.drop_zero]; exact HC.out, HK.out⟩
      case round =>
        clear HK HC HS
        obtain ⟨k, s, wt, rfl, hk, hs, rfl, rfl, hc, hK⟩ := hrel
        have HK := Lib.hid hK
        have HC := Lib.hid hc
        have HS := Lib.hid hs
        clear hK hc hs
        rcases Nat.lt_or_ge k r.length with hkn | hkn
        · obtain ⟨bb, boff, htp, qb⟩ := SlC.Bytes.at_ (HR1.out.kept HK.out (by simp)) k hkn
          subst htp
          have hnx := next_to HC.out YR.out hkn
          obtain ⟨c, hc, hc8⟩ : ∃ c : Nat, r.getD k 0 = (c : Int) ∧ c < 256 := by
            have := YR.out (r.getD k 0) (by rw [List.getD_eq_getElem?_getD, List.getElem?_eq_getElem hkn]; exact List.getElem_mem hkn)
            exact ⟨(r.getD k 0).toNat, by omega, by omega⟩
          rw [hc] at qb hnx
          rw [Int.toNat_natCast] at hnx
          clear hc
          have hs := HS.out
          obtain ⟨i, hi⟩ : ∃ i : Nat, s / 2 ^ 24 ^^^ c = i := ⟨_, rfl⟩
          have hi8 : i < 256 := hi ▸ xor_byte (by omega) hc8
          have ei : bits .xor .u8 ((s : Int) / 16777216) (c : Int) = (i : Int) := by
            rw [show ((s : Int) / 16777216) = ((s / 2 ^ 24 : Nat) : Int) by omega, xor8 (by omega) hc8, hi]
          have q0 := (HK.out.has H1.out (by simp)).cell (3 + (256 * 0 + i)) (tcells_row true 0 (srow 1024) true (256 * 0 + i) (by rw [srow_length]; omega))
          rw [srow_get 0 i (by omega) hi8, show 256 * 0 + i = i by omega, show tk 0 i = stp 0 i from rfl] at q0
          have er : bits .xor .u32 ((s : Int) * 256 % 4294967296) ((stp 0 i : Nat) : Int) = ((stp s c : Nat) : Int) := by
            rw [show ((s : Int) * 256 % 4294967296) = ((s * 256 % 2 ^ 32 : Nat) : Int) by omega, Bt.xor32 (Nat.mod_lt _ (by omega)) (stp_lt _ _), stp_table s c hs, hi]
          have hlt := stp_lt s c
          generalize stp 0 i = q at q0 er
          generalize stp s c = t at hnx er hlt
          have NX := Lib.hid hnx
          have TL := Lib.hid hlt
          clear hnx hlt hi
          go_wp2_with fail
          go_roundw
          case rel => exact ⟨k + 1, t, wt, rfl, by omega, TL.out, rfl, by go_num, NX.out, HK.out⟩
          case measure => simp [intOf]; omega
        · obtain rfl : k = r.length := by omega
          have e := HC.out
          rw [List.drop_length, crcFrom_nil HS.out] at e
          subst e
          go_wp2_with fail
          go_ret2
          exact ⟨rfl, K1.out.trans (HK.out.mono (by simp)), HK.out.has H1.out (by simp)⟩
/-- Sum at tables that were not used yet. -/
theorem sum_first (b : Nat) (v : Value) (l : List Int) (w : World) (hs : Bytes w v l) (hb : By l) (hl : l.length ≤ 1000000) (hn : ∀ x off n c, v = .slice (some ⟨x, off, none⟩) n c → l ≠ [] → x ∉ [b])
    (h : Has w b 83 (tcells false 0 (List.replicate 1024 0) false)) :
    Calls Try.prog 30 #[.pointer (some ⟨b, 0, none⟩), v] w fun e w' => e = .returned (.tuple #[.int .u32 ((crc l : Nat) : Int), .int .i64 0]) ∧ Kept [b] w w' ∧ Has w' b 83 (tcells true 0 (srow 1024) true) :=
  sum_core b v l [b] w hs hb hl hn (build_first b w h)
theorem sum_again (b : Nat) (v : Value) (l : List Int) (w : World) (hs : Bytes w v l) (hb : By l) (hl : l.length ≤ 1000000) (h : Has w b 83 (tcells true 0 (srow 1024) true)) :
    Calls Try.prog 30 #[.pointer (some ⟨b, 0, none⟩), v] w fun e w' => e = .returned (.tuple #[.int .u32 ((crc l : Nat) : Int), .int .i64 0]) ∧ Kept [] w w' ∧ Has w' b 83 (tcells true 0 (srow 1024) true) :=
  sum_core b v l [] w hs hb hl (by simp) ((build_again b (srow 1024) true w h).mono fun e w' q => ⟨q.1, q.2, q.2.has h (by simp)⟩)
theorem sum_nil (v : Value) (w : World) : Calls Try.prog 30 #[.pointer none, v] w fun e w' => e = .returned (.tuple #[.int .u32 0, .int .i64 1]) ∧ Kept [] w w' := by
  have K0 := Lib.hid (Kept.refl [] w)
  go_enter Try.func30, Try.ntmps30
  go_wp2_with fail
  go_ret2
  exact ⟨rfl, by first | exact K0.out | exact K0.out.drew | exact K0.out.drewN _⟩
end Go.Proofs.Ytcnlomknmhgpbaa.SlcA

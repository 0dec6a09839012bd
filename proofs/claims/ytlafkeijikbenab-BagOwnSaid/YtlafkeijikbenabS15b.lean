/- Layer 15: BagGarbles. -/
import Derived.Test.YtlafkeijikbenabS15a
import Derived.Deep.QuietTactic
namespace Go.Proofs.Ytlafkeijikbenab.S15
open Go Go.RowKit Go.Proofs.Ytlafkeijikbenab.Hp Go.Proofs.Ytlafkeijikbenab.Sl Go.Proofs.Ytlafkeijikbenab.Ap Go.Proofs.Ytlafkeijikbenab.Br Go.Proofs.Ytlafkeijikbenab.BrG Go.Proofs.Ytlafkeijikbenab.BagC Go.Proofs.Ytlafkeijikbenab.Fit
open Go.Proofs.Ytlafkeijikbenab.Pure Go.Proofs.Ytlafkeijikbenab.Gf
set_option linter.unusedVariables false
set_option linter.unusedSimpArgs false
theorem IsBag.types {w : World} {b m : Nat} {la : Option Nat} {fs : List (List Int)} (h : IsBag w b m la fs) : ∀ x, x ∈ b :: m :: la.toList → x < w.heap.size → ∃ T cs, Has w x T cs ∧ T ≠ 5 := by
  obtain ⟨v, mm, h1, h2, h3, _⟩ := h
  intro x hx _
  simp at hx
  rcases hx with rfl | rfl | hx
  · exact ⟨_, _, h1, by decide⟩
  · exact ⟨_, _, h2, by decide⟩
  · obtain ⟨cs, q⟩ := Held.ty h3 hx
    exact ⟨_, _, q, by decide⟩
/-- What the law needs of a frame and a pattern. -/
structure Garb (f : List Int) (at' : Int) (x : Nat) (bad : List Int) : Prop where
  code : (mkA (f.length : Int) at' x).2 = 0
  is : bad = xl f (mkA (f.length : Int) at' x).1
  by_ : By bad
  len : bad.length = f.length
  seen : crc bad ≠ 0
  back : xl bad (mkA (f.length : Int) at' x).1 = f
theorem garb_of {f : List Int} (hf : By f) (hc : crc f = 0) (hl : f.length ≤ 1000) (at' : Int) {x : Nat} (hx : x < 2 ^ 32) :
    (mkA (f.length : Int) at' x).2 = 30 ∨ ∃ bad, Garb f at' x bad := by
  by_cases h : x = 0 ∨ at' < 0 ∨ at' > 8 * (f.length : Int) - (len x : Nat)
  · refine .inl ?_
    unfold mkA; rw [if_neg (by omega), if_pos h]
  · refine .inr ⟨xl f (mkA (f.length : Int) at' x).1, ?_⟩
    have e : mkA (f.length : Int) at' x = (Pure.mkl x (len x) at'.toNat (len x) 0 (List.replicate f.length 0), 0) := by
      unfold mkA; rw [if_neg (by omega), if_neg h, Int.toNat_natCast]
    have hm := mkl_burst (w := x) (N := f.length) (A := at'.toNat) (by omega)
    have hml : (Pure.mkl x (len x) at'.toNat (len x) 0 (List.replicate f.length 0)).length = f.length := by rw [mkl_length, List.length_replicate]
    refine ⟨by rw [e], rfl, ?_, ?_, ?_, ?_⟩
    · rw [e]; exact xl_by hf hm.1
    · rw [e]; exact xl_length _ _ hml.symm
    · rw [e]
      have hp := pol_xl hf hm.1 hml.symm
      simp only
      rw [hm.2] at hp
      rw [crc_xor hp hc, Nat.mul_assoc, ← Nat.pow_add]
      exact burst_seen (by omega) hx
    · rw [e]; exact xl_back hf hm.1 hml.symm
theorem garA_bad {f : List Int} {at' : Int} {x : Nat} (h : (mkA (f.length : Int) at' x).2 = 30) : garA [f] 0 at' x = ([], 30) := by
  have e : getA [f] 0 = (f, 0) := rfl
  simp only [garA, e, h]; rfl
theorem garA_one {f : List Int} {at' : Int} {x : Nat} {bad : List Int} (h : Garb f at' x bad) : garA [f] 0 at' x = (bad, 0) := by
  have e : getA [f] 0 = (f, 0) := rfl
  simp only [garA, e, h.code, if_true]; rw [h.is]
theorem garA_two {f : List Int} {at' : Int} {x : Nat} {bad : List Int} (h : Garb f at' x bad) : garA [f, bad] 1 at' x = (f, 0) := by
  have e : getA [f, bad] 1 = (bad, 0) := rfl
  simp only [garA, e, h.len, h.code, if_true]; rw [h.back]
set_option maxRecDepth 100000 in
set_option maxHeartbeats 3200000 in
theorem BagGarbles_skip (s : Value) (l : List Int) (at' x : Int) (w : World) (hb : Bytes w s l) (h : 20 < l.length) :
    Calls Try.prog 12 #[s, .int .i64 at', .int .u32 x] w fun e w' => e = .returned (.bool true) ∧ Below w.heap.size w w' := by
  obtain ⟨sp, sc, rfl⟩ : ∃ p c, s = .slice p l.length c := by rcases hb with ⟨rfl, rfl⟩ | ⟨x, cap, rfl, _⟩ <;> exact ⟨_, _, rfl⟩
  have e2 : decide ((l.length : Int) > 20) = true := by simp; omega
  clear h hb
  go_enter Try.func12, Try.ntmps12
  go_wp2_with fail
  refine (awake_call _).mono ?_
  rintro e w0 ⟨rfl, k0⟩
  go_wp2_with fail
  go_ret
  exact ⟨rfl, k0.toBelow (by simp)⟩
set_option maxRecDepth 100000 in
set_option maxHeartbeats 6400000 in
theorem BagGarbles_walk (s : Value) (l : List Int) (at' : Int) (x : Nat) (hx : x < 2 ^ 32) (w : World) (hs : Bytes w s l) (h : l.length ≤ 20) (hby : By l) :
    Calls Try.prog 12 #[s, .int .i64 at', .int .u32 (x : Int)] w fun e w' => e = .returned (.bool true) ∧ Below w.heap.size w w' := by
  obtain ⟨sp, sc, rfl⟩ : ∃ p c, s = .slice p l.length c := by rcases hs with ⟨rfl, rfl⟩ | ⟨x, cap, rfl, _⟩ <;> exact ⟨_, _, rfl⟩
  have e2 : decide ((l.length : Int) > 20) = false := by simp; omega
  have SB := Lib.hid hs
  have BY := Lib.hid hby
  have HL := Lib.hid h
  clear hs hby h
  go_enter Try.func12, Try.ntmps12
  go_wp2_with fail
  refine (awake_call _).mono ?_
  rintro e w0 ⟨rfl, k0⟩
  have K0 := Lib.hid k0
  have B0 := Lib.hid (SB.out.kept k0 (by simp))
  clear k0
  go_wp2_with (at_builtin; refine wpList_app rfl _ _ rfl w0 (.slice sp l.length sc) l _ rfl rfl rfl B0.out (by have := HL.out; omega) ?_)
  intro y w1 k1 gy hgy hoy
  have K1 := Lib.hid (K0.out.trans k1)
  have Y1 := Lib.hid (Row.bytes (Or.inr ⟨gy, hoy⟩))
  clear k1 hoy hgy B0
  go_wp2_with fail
  refine (seal_call _ l _ Y1.out BY.out (by have := HL.out; omega)).mono ?_
  rintro e w2 ⟨f, rfl, k2, h2⟩
  have hfl := sealed_length l
  have hfb := sealed_by BY.out
  have hfc : crc (sealed l) = 0 := crc_sealed
  generalize sealed l = fl at *
  obtain ⟨fp, fc, rfl⟩ := h2.shape
  have K2 := Lib.hid (K1.out.trans k2)
  have F2 := Lib.hid h2.1
  have FB := Lib.hid hfb
  have FC := Lib.hid hfc
  have FL := Lib.hid (show fl.length = l.length + 4 ∧ fl.length ≤ 24 from ⟨hfl, by have := HL.out; omega⟩)
  clear k2 h2 Y1 hfl hfb hfc
  go_wp2_with fail
  refine (BagC.new_call _).mono ?_
  rintro e w3 ⟨b, m, rfl, k3, h3, sb, sm⟩
  have F3 := Lib.hid (F2.out.kept k3 (by simp))
  have K3 := Lib.hid (K2.out.trans k3)
  have H3 := Lib.hid h3
  have SM := Lib.hid (show w.heap.size ≤ b ∧ w.heap.size ≤ m from ⟨Nat.le_trans K2.out.size sb, Nat.le_trans K2.out.size sm⟩)
  clear k3 h3 F2 sb sm
  go_wp2_with (at_builtin; refine wpList_app rfl _ _ rfl w3 (.slice fp fl.length fc) fl _ rfl rfl rfl (Row.bytes F3.out) (by have := FL.out; omega) ?_)
  intro y w4 k4 gy hgy hoy
  have K4 := Lib.hid (K3.out.trans k4)
  have F4 := Lib.hid (F3.out.kept k4 (by simp))
  have H4 := Lib.hid (IsBag.fresh H3.out k4)
  have Y4 := Lib.hid (Row.bytes (Or.inr ⟨gy, hoy⟩))
  have PC := Lib.hid (BagC.put_call b m none [] _ fl _ H4.out Y4.out (by have := FL.out; omega) (by decide))
  clear k4 hoy hgy F3 H3
  go_wp2_with fail
  refine PC.out.mono ?_
  rintro e w5 ⟨rfl, k5, la, hla, h5⟩
  have LA5 := Lib.hid (show ∀ g, la = some g → w.heap.size ≤ g from by
    intro g hg
    rcases hla with h | ⟨g', h, hg'⟩
    · rw [h] at hg; cases hg
    · rw [h] at hg; cases hg; exact Nat.le_trans K4.out.size hg')
  have K5 := Lib.hid (K4.out.fresh k5 (by have := SM.out; intro i hi hl; simp at hi; omega))
  have F5 := Lib.hid (Row.keptT F4.out k5 (IsBag.types H4.out))
  have h5' : IsBag w5 b m la [fl] := h5
  have H5 := Lib.hid h5'
  have GC := garbled_call b m la [fl] 0 at' x hx _ h5'
  clear PC k5 hla h5 h5' F4 H4 Y4
  rcases garb_of FB.out FC.out (by have := FL.out; omega) at' hx with hg | ⟨bad, hg⟩
  · rw [garA_bad hg] at GC
    have GC' := Lib.hid GC
    clear GC hg
    go_wp2_with fail
    refine GC'.out.mono ?_
    rintro e w6 ⟨yb, rfl, k6, h6⟩
    obtain ⟨bp, bc, rfl⟩ := h6.shape
    have K6 := Lib.hid (K5.out.trans k6)
    clear k6 h6
    go_wp2_with fail
    go_ret
    exact ⟨rfl, K6.out.toBelow (by simp)⟩
  · rw [garA_one hg] at GC
    have GC' := Lib.hid GC
    have HG := Lib.hid hg
    clear GC hg
    go_wp2_with fail
    refine GC'.out.mono ?_
    rintro e w6 ⟨yb, rfl, k6, h6⟩
    obtain ⟨bp, bc, rfl⟩ := h6.shape
    have K6 := Lib.hid (K5.out.trans k6)
    have F6 := Lib.hid (F5.out.kept k6 (by simp))
    have X6 := Lib.hid h6.1
    have H6 := Lib.hid (IsBag.fresh H5.out k6)
    have G6 := get_call b m la [fl] 0 _ H6.out
    rw [show getA [fl] 0 = (fl, 0) from rfl] at G6
    have G6' := Lib.hid G6
    clear k6 h6 F5 H5 GC' G6
    go_wp2_with fail
    refine G6'.out.mono ?_
    rintro e w7 ⟨yg, rfl, k7, h7⟩
    obtain ⟨gp, gc, rfl⟩ := h7.shape
    have K7 := Lib.hid (K6.out.trans k7)
    have F7 := Lib.hid (F6.out.kept k7 (by simp))
    have X7 := Lib.hid (X6.out.kept k7 (by simp))
    have H7 := Lib.hid (IsBag.fresh H6.out k7)
    have s1 := h7.bytes.str
    have s2 := (Row.bytes F7.out).str
    have V1 := valid_call _ bad w7 (Row.bytes X7.out) HG.out.by_ (by have := HG.out.len; have := FL.out; omega) (by have := HG.out.len; have := FL.out; omega)
    have V2 := fun q => valid_call _ fl (w7.drewN q) (h7.bytes.kept ((Kept.refl [] w7).drewN q) (by simp)) FB.out (by have := FL.out; omega) (by have := FL.out; omega)
    rw [decide_eq_false HG.out.seen] at V1
    have V1' := Lib.hid V1
    have V2' := Lib.hid (show ∀ q, Calls Try.prog 42 #[.slice gp fl.length gc] (w7.drewN q) fun e W' => e = .returned (.bool true) ∧ ∃ n, W' = (w7.drewN q).drewN n from (fun q => by have := V2 q; rw [decide_eq_true FC.out] at this; exact this))
    have ne : ((strOfNums fl).toList != (strOfNums fl).toList) = false := by simp
    clear k7 h7 F6 X6 H6 G6' V1 V2
    go_wp2_with fail
    refine V1'.out.mono ?_
    rintro e w8 ⟨rfl, q1, rfl⟩
    go_wp2_with fail
    refine (V2'.out q1).mono ?_
    rintro e w8 ⟨rfl, q2, rfl⟩
    have kq := ((Kept.refl [] w7).drewN q1).drewN q2
    have K9 := Lib.hid (K7.out.trans kq)
    have F9 := Lib.hid (F7.out.kept kq (by simp))
    have X9 := Lib.hid (X7.out.kept kq (by simp))
    have H9 := Lib.hid (IsBag.fresh H7.out kq)
    clear kq K7 F7 X7 H7 s1 s2 V1' V2' ne
    generalize (w7.drewN q1).drewN q2 = w9 at *
    have PC := Lib.hid (BagC.put_call b m la [fl] _ bad _ H9.out (Row.bytes X9.out) (by have := HG.out.len; have := FL.out; omega) (by simp))
    go_wp2_with fail
    refine PC.out.mono ?_
    rintro e wa ⟨rfl, ka, la2, hla2, ha⟩
    have ha' : IsBag wa b m la2 [fl, bad] := ha
    have Ka := Lib.hid (K9.out.fresh ka (by
      intro i hi hl
      simp at hi
      have := SM.out
      rcases hi with rfl | rfl | hi
      · omega
      · omega
      · have := LA5.out i hi; omega))
    have Fa := Lib.hid (Row.keptT F9.out ka (IsBag.types H9.out))
    have GD := garbled_call b m la2 [fl, bad] 1 at' x hx _ ha'
    rw [garA_two HG.out] at GD
    have GD' := Lib.hid GD
    clear GD PC ka ha ha' hla2 F9 X9 H9 K9
    go_wp2_with fail
    refine GD'.out.mono ?_
    rintro e wb ⟨yz, rfl, kb, hz⟩
    have Kb := Lib.hid (Ka.out.trans kb)
    have s1 := hz.bytes.str
    have s2 := (Row.bytes (Fa.out.kept kb (by simp))).str
    clear kb hz GD' Fa
    go_wp2_with fail
    go_ret
    exact ⟨rfl, Kb.out.toBelow (by simp)⟩
theorem BagGarbles_law (a : Option Addr) (len cap : Nat) (at' x : Int) (w : World) (hg : ∃ n, Fits Try.prog w n 22 [.slice a len cap]) (_ : (Lit.int .i64 at').wf = true) (hx : (Lit.int .u32 x).wf = true) :
    Calls Try.prog 12 #[.slice a len cap, .int .i64 at', .int .u32 x] w fun e w' => e = .returned (.bool true) ∧ Below w.heap.size w w' := by
  obtain ⟨n, hg⟩ := hg
  obtain ⟨l, rfl, hb, hl, hw⟩ := bytes_of_fits hg
  obtain ⟨c, rfl, hc⟩ := Go.Proofs.Ytlafkeijikbenab.Bt.u32_of_wf hx
  by_cases h : l.length ≤ 20
  · refine BagGarbles_walk _ l at' c hc w hb h (fun z hz => ?_)
    obtain ⟨i, hi, rfl⟩ := List.getElem_of_mem hz
    have := hw i hi
    rw [List.getD_eq_getElem?_getD, List.getElem?_eq_getElem hi, Option.getD_some] at this
    simp [Lit.wf, IntKind.min, IntKind.max, IntKind.signed, IntKind.bits] at this
    omega
  · exact BagGarbles_skip _ l at' c w hb (by omega)
end Go.Proofs.Ytlafkeijikbenab.S15

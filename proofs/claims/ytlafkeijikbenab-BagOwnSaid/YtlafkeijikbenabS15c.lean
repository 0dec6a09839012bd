/- Layer 15: BagOwn. -/
import Derived.Test.YtlafkeijikbenabS15b
import Derived.Test.YtlafkeijikbenabApD
import Derived.Deep.QuietTactic
namespace Go.Proofs.Ytlafkeijikbenab.S15
open Go Go.RowKit Go.Proofs.Ytlafkeijikbenab.Hp Go.Proofs.Ytlafkeijikbenab.Sl Go.Proofs.Ytlafkeijikbenab.Ap Go.Proofs.Ytlafkeijikbenab.Br Go.Proofs.Ytlafkeijikbenab.BrG Go.Proofs.Ytlafkeijikbenab.BagC Go.Proofs.Ytlafkeijikbenab.Fit
set_option linter.unusedVariables false
set_option linter.unusedSimpArgs false
theorem IsBagP.bound {P : Nat → Prop} {w : World} {b m : Nat} {la : Option Nat} {fs : List (List Int)} (h : IsBagP P w b m la fs) : IsBagP (fun k => P k ∧ k < w.heap.size) w b m la fs := by
  obtain ⟨v, mm, h1, h2, ⟨vs, h3, h4, h5⟩, h6⟩ := h
  exact ⟨v, mm, h1, h2, ⟨vs, h3, h4, fun i hi => ⟨(h5 i hi).1, fun k hk => ⟨(h5 i hi).2 k hk, (h5 i hi).1.lt hk⟩⟩⟩, h6⟩
/-- Rows of bytes, where the bag's own do not lie, may change. -/
theorem IsBagP.away {P : Nat → Prop} {w w' : World} {b m : Nat} {la : Option Nat} {fs : List (List Int)} {S : List Nat} (h : IsBagP P w b m la fs) (k : Kept S w w') (hS : ∀ x, x ∈ S → (∃ cs, Has w x 5 cs) ∧ ¬ P x) : IsBagP P w' b m la fs := by
  refine IsBag.keptP h k (fun x hx _ => ?_)
  obtain ⟨⟨cs, q⟩, hn⟩ := hS x hx
  refine ⟨⟨_, cs, q, .inr hn, by decide, by decide⟩, fun e => ?_⟩
  obtain ⟨v, mm, h1, h2, h3, _⟩ := h
  obtain ⟨cs', q'⟩ := Held.ty h3 e
  exact Has.neq q q' (by decide) rfl
theorem Row.has {w : World} {v : Value} {l : List Int} (h : Row w v l) {k : Nat} (hk : v.ownBlock = some k) : ∃ cs, Has w k 5 cs := by
  rcases h with ⟨rfl, _⟩ | ⟨g, h⟩
  · cases hk
  · rw [Own.block h] at hk; cases hk
    obtain ⟨_, cur, _, q, _⟩ := h
    exact ⟨cur, q⟩
theorem garA_short {fs : List (List Int)} (h : Few fs) (i at' : Int) (x : Nat) : (garA fs i at' x).1.length ≤ 27 := by
  have h1 := getA_short h i
  unfold garA
  by_cases c : (getA fs i).2 = 0
  · rw [if_pos c]
    by_cases c2 : (mkA ((getA fs i).1.length : Int) at' x).2 = 0
    · rw [if_pos c2]
      have h2 := mkA_len c2
      rw [Pure.xl_length _ _ (by omega)]; exact h1
    · rw [if_neg c2]; simp
  · rw [if_neg c]; simp
set_option maxRecDepth 100000 in
set_option maxHeartbeats 3200000 in
theorem BagOwn_skip (s : Value) (l : List Int) (w : World) (hb : Bytes w s l) (h : l.length < 1 ∨ 27 < l.length) :
    Calls Try.prog 9 #[s] w fun e w' => e = .returned (.bool true) ∧ Below w.heap.size w w' := by
  obtain ⟨sp, sc, rfl⟩ : ∃ p c, s = .slice p l.length c := by rcases hb with ⟨rfl, rfl⟩ | ⟨x, cap, rfl, _⟩ <;> exact ⟨_, _, rfl⟩
  clear hb
  by_cases h1 : l.length < 1
  · have e1 : decide ((l.length : Int) < 1) = true := by simp; omega
    clear h h1
    go_enter Try.func9, Try.ntmps9
    go_wp2_with fail
    refine (awake_call _).mono ?_
    rintro e w0 ⟨rfl, k0⟩
    go_wp2_with fail
    go_ret
    exact ⟨rfl, k0.toBelow (by simp)⟩
  · have e1 : decide ((l.length : Int) < 1) = false := by simp; omega
    have e2 : decide ((l.length : Int) > 27) = true := by simp; omega
    clear h h1
    go_enter Try.func9, Try.ntmps9
    go_wp2_with fail
    refine (awake_call _).mono ?_
    rintro e w0 ⟨rfl, k0⟩
    go_wp2_with fail
    go_ret
    exact ⟨rfl, k0.toBelow (by simp)⟩
set_option maxRecDepth 100000 in
set_option maxHeartbeats 3200000 in
theorem BagOwn_walk (s : Value) (l : List Int) (w : World) (hb : Bytes w s l) (h1 : 1 ≤ l.length) (h8 : l.length ≤ 27) :
    Calls Try.prog 9 #[s] w fun e w' => e = .returned (.bool true) ∧ Below w.heap.size w w' := by
  obtain ⟨sp, sc, rfl⟩ : ∃ p c, s = .slice p l.length c := by rcases hb with ⟨rfl, rfl⟩ | ⟨x, cap, rfl, _⟩ <;> exact ⟨_, _, rfl⟩
  have e1 : decide ((l.length : Int) < 1) = false := by simp; omega
  have e2 : decide ((l.length : Int) > 27) = false := by simp; omega
  have SB := Lib.hid hb
  have H8 := Lib.hid h8
  have FW := Lib.hid (show Few [l] from ⟨by simp, by simpa using h8⟩)
  clear hb h1 h8
  go_enter Try.func9, Try.ntmps9
  go_wp2_with fail
  refine (awake_call _).mono ?_
  rintro e w0 ⟨rfl, k0⟩
  have K0 := Lib.hid k0
  clear k0
  go_wp2_with fail
  refine (spare_call _ l _ (SB.out.kept K0.out (by simp)) (by have := H8.out; omega)).mono ?_
  rintro e w1 ⟨gI, rfl, k1, hgI, hW⟩
  have K1 := Lib.hid (K0.out.trans k1)
  have W1 := Lib.hid hW
  have GI := Lib.hid (show w.heap.size ≤ gI ∧ gI < w1.heap.size from ⟨Nat.le_trans K0.out.size hgI, hW.lt⟩)
  clear k1 hgI hW
  go_wp2_with fail
  refine (new_callP (fun k => k ≠ gI) _).mono ?_
  rintro e w2 ⟨b, m, rfl, k2, h2, sb, sm⟩
  have K2 := Lib.hid (K1.out.trans k2)
  have W2 := Lib.hid (k2.has W1.out (by simp))
  have B2 := Lib.hid h2
  have BM := Lib.hid (show w1.heap.size ≤ b ∧ w1.heap.size ≤ m from ⟨sb, sm⟩)
  have Z12 := Lib.hid k2.size
  have PC := Lib.hid (put_callP (fun k => k ≠ gI) b m none [] (.slice (some ⟨gI, 0, none⟩) l.length (l.length + 9)) l w2 (by have := GI.out; have := k2.size; intro k hk; show k ≠ gI; omega) h2 (own_whole W2.out (by have := H8.out; omega)).bytes H8.out (by simp))
  clear k2 h2 sb sm W1
  go_wp2_with fail
  refine PC.out.mono ?_
  rintro e w3 ⟨rfl, k3, la, hla, h3⟩
  have h3' : IsBagP (fun k => k ≠ gI ∧ k < w3.heap.size) w3 b m la [l] := IsBagP.bound h3
  have K3 := Lib.hid (K2.out.fresh k3 (by have := GI.out; have := BM.out; intro i hi hl; simp at hi; omega))
  have W3 := Lib.hid (k3.has W2.out (by have := GI.out; have := BM.out; simp; omega))
  have B3 := Lib.hid h3'
  have G3 := Lib.hid (show gI < w3.heap.size from W3.out.lt)
  have Z23 := Lib.hid k3.size
  generalize hN : w3.heap.size = N at *
  clear PC k3 h3 h3' hla W2 B2
  have GC := Lib.hid (get_in b m la [l] 0 w3 (IsBagP.all B3.out) (by simp))
  go_wp2_with fail
  refine GC.out.mono ?_
  rintro e w4 ⟨x, rfl, k4, hx⟩
  have hx : Made w3 w4 x l := hx
  have K4 := Lib.hid (K3.out.trans k4)
  have W4 := Lib.hid (k4.has W3.out (by simp))
  have B4 := Lib.hid (IsBag.keptP B3.out k4 (by simp))
  have X4 := Lib.hid hx.1
  have XN := Lib.hid (show ∀ k, x.ownBlock = some k → N ≤ k ∧ k < w4.heap.size from fun k hk => ⟨hN ▸ hx.2 k hk, hx.1.lt hk⟩)
  have Z34 := Lib.hid (hN ▸ k4.size)
  clear k4 hx GC W3 B3 K3
  have GC := Lib.hid (get_in b m la [l] 0 w4 (IsBagP.all B4.out) (by simp))
  go_wp2_with fail
  refine GC.out.mono ?_
  rintro e w5 ⟨y, rfl, k5, hy⟩
  have hy : Made w4 w5 y l := hy
  have K5 := Lib.hid (K4.out.trans k5)
  have W5 := Lib.hid (k5.has W4.out (by simp))
  have B5 := Lib.hid (IsBag.keptP B4.out k5 (by simp))
  have X5 := Lib.hid (X4.out.kept k5 (by simp))
  have Y5 := Lib.hid hy.1
  have YN := Lib.hid (show ∀ k, y.ownBlock = some k → w4.heap.size ≤ k ∧ k < w5.heap.size from fun k hk => ⟨hy.2 k hk, hy.1.lt hk⟩)
  have Z45 := Lib.hid k5.size
  clear k5 hy GC W4 B4 K4 X4
  have GC := Lib.hid (garbled_call b m la [l] 0 0 1 (by decide) w5 (IsBagP.all B5.out))
  have ZS := Lib.hid (garA_short FW.out 0 0 1)
  generalize garA [l] 0 0 1 = za at *
  obtain ⟨zl, ze⟩ := za
  go_wp2_with fail
  refine GC.out.mono ?_
  rintro e w6 ⟨z, rfl, k6, hz⟩
  have hz : Made w5 w6 z zl := hz
  have K6 := Lib.hid (K5.out.trans k6)
  have W6 := Lib.hid (k6.has W5.out (by simp))
  have B6 := Lib.hid (IsBag.keptP B5.out k6 (by simp))
  have X6 := Lib.hid (X5.out.kept k6 (by simp))
  have Y6 := Lib.hid (Y5.out.kept k6 (by simp))
  have Z6 := Lib.hid hz.1
  have ZN := Lib.hid (show ∀ k, z.ownBlock = some k → w5.heap.size ≤ k ∧ k < w6.heap.size from fun k hk => ⟨hz.2 k hk, hz.1.lt hk⟩)
  have Z56 := Lib.hid k6.size
  clear k6 hz GC W5 B5 K5 X5 Y5
  have KC := Lib.hid (kept_call gI _ l w6 (SB.out.kept K6.out (by simp)) W6.out (by have := H8.out; omega))
  obtain ⟨xp, xc, rfl⟩ := Row.sl X6.out
  obtain ⟨yp, yc, rfl⟩ := Row.sl Y6.out
  obtain ⟨zp, zc, rfl⟩ := Row.sl Z6.out
  go_wp2_with fail
  refine KC.out.mono ?_
  rintro e w7 ⟨rfl, k7⟩
  have K7 := Lib.hid (K6.out.trans k7)
  have B7 := Lib.hid (IsBag.keptP B6.out k7 (by simp))
  have X7 := Lib.hid (X6.out.kept k7 (by simp))
  have Y7 := Lib.hid (Y6.out.kept k7 (by simp))
  have Z7 := Lib.hid (Z6.out.kept k7 (by simp))
  have I7 := Lib.hid ((own_whole W6.out (by have := H8.out; omega)).kept k7 (by simp))
  have zN : N ≤ w4.heap.size ∧ w4.heap.size ≤ w5.heap.size ∧ w5.heap.size ≤ w6.heap.size ∧ w6.heap.size ≤ w7.heap.size := ⟨Z34.out, Z45.out, Z56.out, k7.size⟩
  have ZZ := Lib.hid zN
  clear k7 KC W6 B6 X6 Y6 Z6 K6 zN
  generalize ho : (Obj.cells #[.slice (some ⟨gI, 0, none⟩) l.length (l.length + 9), .slice xp l.length xc, .slice yp l.length yc, .slice zp zl.length zc] 22) = o
  have kk := (Kept.refl [] w7).alloc o
  have hL : Lists (w7.alloc o) w7.heap.size [.slice (some ⟨gI, 0, none⟩) l.length (l.length + 9), .slice xp l.length xc, .slice yp l.length yc, .slice zp zl.length zc] (fun i => if i < 3 then l.length else zl.length) (gI :: ((Value.slice xp l.length xc).ownBlock.toList ++ ((Value.slice yp l.length yc).ownBlock.toList ++ (Value.slice zp zl.length zc).ownBlock.toList))) := by
    have hx := XN.out; have hy := YN.out; have hz := ZN.out; have hg := G3.out; have hzz := ZZ.out; have h8 := H8.out; have hzs := ZS.out
    have dI : (Value.slice (some ⟨gI, 0, none⟩) l.length (l.length + 9)).ownBlock = some gI := rfl
    refine ⟨by simp, by rw [← ho]; exact Has.new w7 _ _, fun i => by show (if i < 3 then l.length else zl.length) ≤ 1000000; split <;> omega, ?_, ?_, ?_⟩
    · intro i hi
      match i, hi with
      | 0, _ => exact ⟨l, rfl, .inr ⟨gI, I7.out.kept kk (by simp)⟩⟩
      | 1, _ => exact ⟨l, rfl, X7.out.kept kk (by simp)⟩
      | 2, _ => exact ⟨l, rfl, Y7.out.kept kk (by simp)⟩
      | 3, _ => exact ⟨zl, rfl, Z7.out.kept kk (by simp)⟩
    · intro i j k hi hj hij h1 h2
      match i, hi, j, hj with
      | 0, _, 0, _ => exact absurd rfl hij
      | 1, _, 1, _ => exact absurd rfl hij
      | 2, _, 2, _ => exact absurd rfl hij
      | 3, _, 3, _ => exact absurd rfl hij
      | 0, _, 1, _ => have a := Option.some.inj (dI.symm.trans h1); have b := hx k h2; omega
      | 0, _, 2, _ => have a := Option.some.inj (dI.symm.trans h1); have b := hy k h2; omega
      | 0, _, 3, _ => have a := Option.some.inj (dI.symm.trans h1); have b := hz k h2; omega
      | 1, _, 0, _ => have a := Option.some.inj (dI.symm.trans h2); have b := hx k h1; omega
      | 2, _, 0, _ => have a := Option.some.inj (dI.symm.trans h2); have b := hy k h1; omega
      | 3, _, 0, _ => have a := Option.some.inj (dI.symm.trans h2); have b := hz k h1; omega
      | 1, _, 2, _ => have a := hx k h1; have b := hy k h2; omega
      | 1, _, 3, _ => have a := hx k h1; have b := hz k h2; omega
      | 2, _, 1, _ => have a := hy k h1; have b := hx k h2; omega
      | 2, _, 3, _ => have a := hy k h1; have b := hz k h2; omega
      | 3, _, 1, _ => have a := hz k h1; have b := hx k h2; omega
      | 3, _, 2, _ => have a := hz k h1; have b := hy k h2; omega
    · intro i k hi h1
      match i, hi with
      | 0, _ => have a := Option.some.inj (dI.symm.trans h1); subst a; simp
      | 1, _ => have h1' : (Value.slice xp l.length xc).ownBlock = some k := h1; rw [h1']; simp
      | 2, _ => have h1' : (Value.slice yp l.length yc).ownBlock = some k := h1; rw [h1']; simp
      | 3, _ => have h1' : (Value.slice zp zl.length zc).ownBlock = some k := h1; rw [h1']; simp
  have AP := Lib.hid (apart_call _ _ _ _ _ hL)
  have SM := Lib.hid (show ∀ x, x ∈ (gI :: ((Value.slice xp l.length xc).ownBlock.toList ++ ((Value.slice yp l.length yc).ownBlock.toList ++ (Value.slice zp zl.length zc).ownBlock.toList))) → (∃ cs, Has (w7.alloc o) x 5 cs) ∧ ¬ (x ≠ gI ∧ x < N) ∧ w.heap.size ≤ x from by
    have hx := XN.out; have hy := YN.out; have hz := ZN.out; have hg := GI.out; have hzz := ZZ.out; have h12 := Z12.out; have h23 := Z23.out; have g3 := G3.out
    intro x hm
    simp at hm
    rcases hm with rfl | hm | hm | hm
    · obtain ⟨_, cur, _, q, _⟩ := I7.out
      exact ⟨⟨cur, q.alloc o⟩, fun h => h.1 rfl, hg.1⟩
    · have a := hx x hm
      exact ⟨(Row.has (X7.out.kept kk (by simp)) hm), by omega, by omega⟩
    · have a := hy x hm
      exact ⟨(Row.has (Y7.out.kept kk (by simp)) hm), by omega, by omega⟩
    · have a := hz x hm
      exact ⟨(Row.has (Z7.out.kept kk (by simp)) hm), by omega, by omega⟩)
  have B8 := Lib.hid (IsBag.keptP B7.out kk (by simp))
  have K8 := Lib.hid (K7.out.trans kk)
  clear hL kk B7 X7 Y7 Z7 I7 K7
  subst ho
  go_wp2_with fail
  refine AP.out.mono ?_
  rintro e w9 ⟨rfl, k9⟩
  have K9 := Lib.hid (K8.out.fresh k9 (fun x hx hl => absurd hl (by have := (SM.out x hx).2.2; omega)))
  have B9 := Lib.hid (IsBagP.away B8.out k9 (fun x hx => ⟨(SM.out x hx).1, (SM.out x hx).2.1⟩))
  have GC := Lib.hid (get_in b m la [l] 0 w9 (IsBagP.all B9.out) (by simp))
  clear AP k9 B8 K8
  go_wp2_with fail
  refine GC.out.mono ?_
  rintro e wa ⟨q, rfl, ka, hq⟩
  have hq : Made w9 wa q l := hq
  have Ka := Lib.hid (K9.out.trans ka)
  have s1 := hq.bytes.str
  have s2 := (SB.out.kept Ka.out (by simp)).str
  clear ka hq GC B9 K9
  go_wp2_with fail
  go_ret
  exact ⟨rfl, Ka.out.toBelow (by simp)⟩
theorem BagOwn_law (x : Option Addr) (len cap : Nat) (w : World) (hg : ∃ n, Fits Try.prog w n 22 [.slice x len cap]) :
    Calls Try.prog 9 #[.slice x len cap] w fun e w' => e = .returned (.bool true) ∧ Below w.heap.size w w' := by
  obtain ⟨n, hg⟩ := hg
  obtain ⟨l, rfl, hb, hl, _⟩ := bytes_of_fits hg
  by_cases h : 1 ≤ l.length ∧ l.length ≤ 27
  · exact BagOwn_walk _ l w hb h.1 h.2
  · exact BagOwn_skip _ l w hb (by omega)
end Go.Proofs.Ytlafkeijikbenab.S15

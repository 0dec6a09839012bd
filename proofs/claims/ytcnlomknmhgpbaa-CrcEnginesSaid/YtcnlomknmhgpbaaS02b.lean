/- Layer 2: the law CrcBuilt. -/
import Derived.Test.YtcnlomknmhgpbaaSlcS
import Derived.Test.YtcnlomknmhgpbaaBrS
import Derived.Test.YtcnlomknmhgpbaaSlC
import Derived.Test.YtcnlomknmhgpbaaFit
namespace Go.Proofs.Ytcnlomknmhgpbaa.S02b
open Go Go.RowKit Go.Proofs.Ytcnlomknmhgpbaa.Hp Go.Proofs.Ytcnlomknmhgpbaa.Sl Go.Proofs.Ytcnlomknmhgpbaa.SlC Go.Proofs.Ytcnlomknmhgpbaa.BrS Go.Proofs.Ytcnlomknmhgpbaa.Fit
open Go.Proofs.Ytcnlomknmhgpbaa.TabC (tcells trow trow_length)
open Go.Proofs.Ytcnlomknmhgpbaa.SlcA (srow srow_length)
set_option linter.unusedVariables false
set_option linter.unusedSimpArgs false
theorem bytes_below {w : World} {v : Value} {l : List Int} (h : Bytes w v l) {x off n c : Nat} (e : v = .slice (some ⟨x, off, none⟩) n c) (hl : l ≠ []) : x < w.heap.size := by
  rcases h with ⟨_, h⟩ | ⟨y, cap, e2, _, _, h⟩
  · exact absurd h hl
  · rcases h with h | ⟨b, o, rfl, hb, _⟩
    · exact absurd h hl
    · rw [e] at e2; cases e2; exact hb
theorem bytes_on {w w3 w' : World} {v : Value} {l : List Int} {T S : Nat} (h : Bytes w v l) (k : Kept [] w w3) (k' : Kept [T, S] w3 w') (hT : w.heap.size ≤ T) (hS : w.heap.size ≤ S) : Bytes w' v l :=
  h.kept (k.fresh k' (by simp; omega)) (by simp)
set_option maxRecDepth 100000 in
set_option maxHeartbeats 3200000 in
theorem CrcBuilt_walk (s : Value) (a : List Int) (w : World) (ha : Bytes w s a) (ya : Gf.By a) (la : a.length ≤ 4000) :
    Calls Try.prog 11 #[s] w fun e w' => e = .returned (.bool true) ∧ Below w.heap.size w w' := by
  obtain ⟨sp, sc, rfl, hsc⟩ := sl_shape ha
  have e1 : decide ((a.length : Int) > 4000) = false := by simp; omega
  have SA := Lib.hid ha
  have YA := Lib.hid ya
  have LA := Lib.hid la
  clear ha ya la
  go_enter Try.func11, Try.ntmps11
  go_wp2_with fail
  refine (awake_call _).mono ?_
  rintro e w0 ⟨rfl, k0⟩
  have K0 := Lib.hid k0
  clear k0
  go_wp2_with fail
  refine (TabC.new_call _).mono ?_
  rintro e w1 ⟨rfl, k1, h1⟩
  have hlT := K0.out.size
  generalize w0.heap.size = T at h1 hlT ⊢
  go_wp2_with fail
  refine (SlcA.new_call _).mono ?_
  rintro e w2 ⟨rfl, k2, h2⟩
  have hT1 := h1.lt
  have hlS : w.heap.size ≤ w1.heap.size := by omega
  have hTS : T < w1.heap.size := hT1
  have h1' := k2.has h1 (by simp)
  have hS2 := h2.lt
  generalize w1.heap.size = S at h2 hlS hTS hS2 ⊢
  go_wp2_with fail
  refine (TabC.new_call _).mono ?_
  rintro e w3 ⟨rfl, k3, h3⟩
  have hSU := hS2
  generalize w2.heap.size = U at h3 hSU ⊢
  have HT := Lib.hid (k3.has h1' (by simp))
  have HS := Lib.hid (k3.has h2 (by simp))
  have HU := Lib.hid h3
  have K3 := Lib.hid (((K0.out.trans k1).trans k2).trans k3)
  clear K0 k1 k2 k3 h1 h2 h3 h1' hT1 hS2
  have nTS : T ≠ S := by omega
  have nTU : T ≠ U := by omega
  have nSU : S ≠ U := by omega
  have hl256 : (List.replicate 256 (0 : Int)).length = 256 := List.length_replicate ..
  have hl1024 : (List.replicate 1024 (0 : Int)).length = 1024 := List.length_replicate ..
  have KK := Lib.hid (Kept.refl [T, S] w3)
  go_wp2_with fail
  refine (TabC.built_call T _ _ _ _ hl256 HT.out).mono ?_
  rintro e w4 ⟨rfl, k4⟩
  replace HT := Lib.hid (k4.has HT.out (by simp))
  replace HS := Lib.hid (k4.has HS.out (by simp))
  replace HU := Lib.hid (k4.has HU.out (by simp))
  replace KK := Lib.hid (KK.out.trans (k4.mono (by simp)))
  clear k4
  go_wp2_with fail
  refine (SlcA.built_call S _ _ _ _ hl1024 HS.out).mono ?_
  rintro e w5 ⟨rfl, k5⟩
  replace HT := Lib.hid (k5.has HT.out (by simp))
  replace HS := Lib.hid (k5.has HS.out (by simp))
  replace HU := Lib.hid (k5.has HU.out (by simp))
  replace KK := Lib.hid (KK.out.trans (k5.mono (by simp)))
  clear k5
  go_wp2_with fail
  refine (TabC.built_call U _ _ _ _ hl256 HU.out).mono ?_
  rintro e w6 ⟨rfl, k6⟩
  replace HT := Lib.hid (k6.has HT.out (by simp))
  replace HS := Lib.hid (k6.has HS.out (by simp))
  replace HU := Lib.hid (k6.has HU.out (by simp))
  replace KK := Lib.hid (KK.out.trans (k6.mono (by simp)))
  clear k6
  go_wp2_with fail
  refine (TabC.sum_first T _ a _ (bytes_on SA.out K3.out KK.out hlT hlS) YA.out (by have := LA.out; omega) (fun x off n c e hl => by have := bytes_below SA.out e hl; simp; omega) HT.out).mono ?_
  rintro e w7 ⟨rfl, k7, h7⟩
  replace HT := Lib.hid h7
  replace HS := Lib.hid (k7.has HS.out (by simp; exact fun e => nTS e.symm))
  replace HU := Lib.hid (k7.has HU.out (by simp; exact fun e => nTU e.symm))
  clear h7
  replace KK := Lib.hid (KK.out.trans (k7.mono (by simp)))
  clear k7
  go_wp2_with fail
  refine (TabC.built_call T _ _ _ _ (trow_length 256) HT.out).mono ?_
  rintro e w8 ⟨rfl, k8⟩
  replace HT := Lib.hid (k8.has HT.out (by simp))
  replace HS := Lib.hid (k8.has HS.out (by simp))
  replace HU := Lib.hid (k8.has HU.out (by simp))
  replace KK := Lib.hid (KK.out.trans (k8.mono (by simp)))
  clear k8
  go_wp2_with fail
  refine (SlcA.built_call S _ _ _ _ hl1024 HS.out).mono ?_
  rintro e w9 ⟨rfl, k9⟩
  replace HT := Lib.hid (k9.has HT.out (by simp))
  replace HS := Lib.hid (k9.has HS.out (by simp))
  replace HU := Lib.hid (k9.has HU.out (by simp))
  replace KK := Lib.hid (KK.out.trans (k9.mono (by simp)))
  clear k9
  go_wp2_with fail
  refine (TabC.built_call U _ _ _ _ hl256 HU.out).mono ?_
  rintro e w10 ⟨rfl, k10⟩
  replace HT := Lib.hid (k10.has HT.out (by simp))
  replace HS := Lib.hid (k10.has HS.out (by simp))
  replace HU := Lib.hid (k10.has HU.out (by simp))
  replace KK := Lib.hid (KK.out.trans (k10.mono (by simp)))
  clear k10
  go_wp2_with fail
  refine (SlcA.sum_first S _ a _ (bytes_on SA.out K3.out KK.out hlT hlS) YA.out (by have := LA.out; omega) (fun x off n c e hl => by have := bytes_below SA.out e hl; simp; omega) HS.out).mono ?_
  rintro e w11 ⟨rfl, k11, h11⟩
  replace HS := Lib.hid h11
  replace HT := Lib.hid (k11.has HT.out (by simp; exact nTS))
  replace HU := Lib.hid (k11.has HU.out (by simp; exact fun e => nSU e.symm))
  clear h11
  replace KK := Lib.hid (KK.out.trans (k11.mono (by simp)))
  clear k11
  go_wp2_with fail
  refine (TabC.built_call T _ _ _ _ (trow_length 256) HT.out).mono ?_
  rintro e w12 ⟨rfl, k12⟩
  replace HT := Lib.hid (k12.has HT.out (by simp))
  replace HS := Lib.hid (k12.has HS.out (by simp))
  replace HU := Lib.hid (k12.has HU.out (by simp))
  replace KK := Lib.hid (KK.out.trans (k12.mono (by simp)))
  clear k12
  go_wp2_with fail
  refine (SlcA.built_call S _ _ _ _ (srow_length 1024) HS.out).mono ?_
  rintro e w13 ⟨rfl, k13⟩
  replace HT := Lib.hid (k13.has HT.out (by simp))
  replace HS := Lib.hid (k13.has HS.out (by simp))
  replace HU := Lib.hid (k13.has HU.out (by simp))
  replace KK := Lib.hid (KK.out.trans (k13.mono (by simp)))
  clear k13
  go_wp2_with fail
  refine (TabC.built_call U _ _ _ _ hl256 HU.out).mono ?_
  rintro e w14 ⟨rfl, k14⟩
  replace HT := Lib.hid (k14.has HT.out (by simp))
  replace HS := Lib.hid (k14.has HS.out (by simp))
  replace HU := Lib.hid (k14.has HU.out (by simp))
  replace KK := Lib.hid (KK.out.trans (k14.mono (by simp)))
  clear k14
  go_wp2_with fail
  refine (TabC.sum_nil _ _).mono ?_
  rintro e w15 ⟨rfl, k15⟩
  replace HT := Lib.hid (k15.has HT.out (by simp))
  replace HS := Lib.hid (k15.has HS.out (by simp))
  replace HU := Lib.hid (k15.has HU.out (by simp))
  replace KK := Lib.hid (KK.out.trans (k15.mono (by simp)))
  clear k15
  go_wp2_with fail
  refine (SlcA.sum_nil _ _).mono ?_
  rintro e w16 ⟨rfl, k16⟩
  replace HT := Lib.hid (k16.has HT.out (by simp))
  replace HS := Lib.hid (k16.has HS.out (by simp))
  replace HU := Lib.hid (k16.has HU.out (by simp))
  replace KK := Lib.hid (KK.out.trans (k16.mono (by simp)))
  clear k16
  go_wp2_with fail
  refine (TabC.built_nil _).mono ?_
  rintro e w17 ⟨rfl, k17⟩
  replace HT := Lib.hid (k17.has HT.out (by simp))
  replace HS := Lib.hid (k17.has HS.out (by simp))
  replace HU := Lib.hid (k17.has HU.out (by simp))
  replace KK := Lib.hid (KK.out.trans (k17.mono (by simp)))
  clear k17
  go_wp2_with fail
  refine (SlcA.built_nil _).mono ?_
  rintro e w18 ⟨rfl, k18⟩
  replace HT := Lib.hid (k18.has HT.out (by simp))
  replace HS := Lib.hid (k18.has HS.out (by simp))
  replace HU := Lib.hid (k18.has HU.out (by simp))
  replace KK := Lib.hid (KK.out.trans (k18.mono (by simp)))
  clear k18
  go_wp2_with fail
  go_ret
  exact ⟨rfl, below_kept (K3.out.toBelow (by simp)) KK.out (by simp; omega)⟩
set_option maxRecDepth 100000 in
theorem CrcBuilt_skip (s : Value) (a : List Int) (w : World) (ha : Bytes w s a) (h : 4000 < a.length) :
    Calls Try.prog 11 #[s] w fun e w' => e = .returned (.bool true) ∧ Below w.heap.size w w' := by
  obtain ⟨sp, sc, rfl, _⟩ := sl_shape ha
  have e1 : decide ((a.length : Int) > 4000) = true := by simp; omega
  clear ha h
  go_enter Try.func11, Try.ntmps11
  go_wp2_with fail
  refine (awake_call _).mono ?_
  rintro e w0 ⟨rfl, k0⟩
  go_wp2_with fail
  go_ret
  exact ⟨rfl, k0.toBelow (by simp)⟩
theorem by_of {l : List Int} (hw : ∀ i, i < l.length → (Lit.int .u8 (l.getD i 0)).wf = true) : Gf.By l := by
  intro z hz
  obtain ⟨i, hi, rfl⟩ := List.getElem_of_mem hz
  have := hw i hi
  rw [List.getD_eq_getElem?_getD, List.getElem?_eq_getElem hi, Option.getD_some] at this
  simp [Lit.wf, IntKind.min, IntKind.max, IntKind.signed, IntKind.bits] at this
  omega
theorem CrcBuilt_law (x : Option Addr) (len cap : Nat) (w : World) (hf : ∃ n, Fits Try.prog w n 22 [.slice x len cap]) :
    Calls Try.prog 11 #[.slice x len cap] w fun e w' => e = .returned (.bool true) ∧ Below w.heap.size w w' := by
  obtain ⟨n, hf⟩ := hf
  obtain ⟨a, rfl, ha, _, wa⟩ := bytes_of_fits hf
  by_cases h : a.length ≤ 4000
  · exact CrcBuilt_walk _ a w ha (by_of wa) h
  · exact CrcBuilt_skip _ a w ha (by omega)
end Go.Proofs.Ytcnlomknmhgpbaa.S02b

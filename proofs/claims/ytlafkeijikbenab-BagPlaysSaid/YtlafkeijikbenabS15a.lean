/- Layer 15: Awake, BagNil, BagFull. -/
import Derived.Test.YtlafkeijikbenabBagR
import Derived.Test.YtlafkeijikbenabFit
namespace Go.Proofs.Ytlafkeijikbenab.S15
open Go Go.RowKit Go.Proofs.Ytlafkeijikbenab.Hp Go.Proofs.Ytlafkeijikbenab.Sl Go.Proofs.Ytlafkeijikbenab.Ap Go.Proofs.Ytlafkeijikbenab.Br Go.Proofs.Ytlafkeijikbenab.BrG Go.Proofs.Ytlafkeijikbenab.BagC Go.Proofs.Ytlafkeijikbenab.Fit
set_option linter.unusedVariables false
set_option linter.unusedSimpArgs false
theorem own_built (w : World) (l : List Int) (h : l.length ≤ maxLen) : Own (w.alloc (.cells (U8 l).toArray 5)) w.heap.size (.slice (some ⟨w.heap.size, 0, none⟩) l.length l.length) l :=
  ⟨l.length, U8 l, rfl, Has.new w _ _, Nat.le_refl _, h, by simp [U8], by rw [List.take_of_length_le (by simp [U8])]⟩
theorem garA_awake : garA [[1, 2, 3]] 0 7 1 = ([0, 2, 3], 0) := by decide +kernel
theorem IsBag.fresh {w w' : World} {b m : Nat} {la : Option Nat} {fs : List (List Int)} (h : IsBag w b m la fs) (k : Kept [] w w') : IsBag w' b m la fs := IsBag.kept h k (by simp)
set_option maxRecDepth 100000 in
set_option maxHeartbeats 1600000 in
theorem awake_call (w : World) : Calls Try.prog 30 #[] w fun e w' => e = .returned (.bool true) ∧ Kept [] w w' := by
  go_enter Try.func30, Try.ntmps30
  go_wp2_with fail
  refine (BagC.new_call _).mono ?_
  rintro e w1 ⟨b, m, rfl, k1, h1, sb, sm⟩
  have hb := own_built w1 [1, 2, 3] (by decide)
  have k2 := (Kept.refl [] w1).alloc (.cells #[.int .u8 1, .int .u8 2, .int .u8 3] 5)
  have h2 := IsBag.fresh h1 k2
  have K2 := Lib.hid (k1.alloc (.cells #[.int .u8 1, .int .u8 2, .int .u8 3] 5))
  have HB := Lib.hid (show Bytes (w1.alloc (.cells #[.int .u8 1, .int .u8 2, .int .u8 3] 5)) (.slice (some ⟨w1.heap.size, 0, none⟩) 3 3) [1, 2, 3] from hb.bytes)
  have H2 := Lib.hid h2
  clear hb h1 h2 k1 k2
  go_wp2_with fail
  refine (BagC.put_call b m none [] _ [1, 2, 3] _ H2.out HB.out (by decide) (by decide)).mono ?_
  rintro e w3 ⟨rfl, k3, la, hla, h3⟩
  have K3 := Lib.hid (K2.out.fresh k3 (by intro i hi hl; simp at hi; omega))
  have H3 := Lib.hid h3
  have GB := Lib.hid (garbled_call b m la [[1, 2, 3]] 0 7 1 (by decide) _ h3)
  rw [garA_awake] at GB
  clear k3 h3 H2 HB K2
  go_wp2_with fail
  refine GB.out.mono ?_
  rintro e w4 ⟨y, rfl, k4, h4⟩
  have K4 := Lib.hid (K3.out.trans k4)
  have H4 := Lib.hid (IsBag.fresh H3.out k4)
  have hs := h4.bytes.str
  have hq : ((strOfNums [0, 2, 3]).toList == [0, 2, 3]) = true := by rw [ByteArray.toList_eq]; rfl
  clear k4 h4 H3 GB K3
  go_wp2_with fail
  refine (len_call b m la _ _ H4.out).mono ?_
  rintro e w5 ⟨rfl, rfl⟩
  go_wp2_with fail
  go_ret
  exact ⟨rfl, K4.out⟩
set_option maxRecDepth 100000 in
set_option maxHeartbeats 3200000 in
theorem BagNil_walk (k n at' x : Int) (s : Value) (l : List Int) (w : World) (hs : Bytes w s l) (hl : l.length ≤ reachBytes) :
    Calls Try.prog 11 #[.agg #[.int .i64 k, .int .i64 n, .int .i64 at', .int .u32 x, s]] w fun e w' => e = .returned (.bool true) ∧ Below w.heap.size w w' := by
  have hH := Has.new w 69 [.int .i64 k, .int .i64 n, .int .i64 at', .int .u32 x, s]
  have hk := (Kept.refl [] w).alloc (.cells #[.int .i64 k, .int .i64 n, .int .i64 at', .int .u32 x, s] 69)
  have hB := hs.kept hk (by simp)
  have HL : l.length ≤ 140737488351232 := by unfold reachBytes at hl; omega
  obtain ⟨sp, sc, rfl⟩ : ∃ p c, s = .slice p l.length c := by rcases hs with ⟨rfl, rfl⟩ | ⟨x, cap, rfl, _⟩ <;> exact ⟨_, _, rfl⟩
  clear hs hl
  go_enter Try.func11, Try.ntmps11
  go_upto_region 1 with (fail)
  have hH : Has (w.alloc (.cells #[.int .i64 k, .int .i64 n, .int .i64 at', .int .u32 x, .slice sp l.length sc] 69)) w.heap.size 69 [.int .i64 k, .int .i64 n, .int .i64 at', .int .u32 x, .slice sp l.length sc] := hH
  generalize w.alloc (.cells #[.int .i64 k, .int .i64 n, .int .i64 at', .int .u32 x, .slice sp l.length sc] 69) = w0 at *
  generalize w.heap.size = b at *
  have HK := Lib.hid hk
  have HB := Lib.hid hB
  have HH := Lib.hid hH
  clear hk hB hH
  go_wp2_with fail
  refine (awake_call _).mono ?_
  rintro e w1 ⟨rfl, k1⟩
  have H1 := Lib.hid (k1.has HH.out (by simp))
  have B1 := Lib.hid (HB.out.kept k1 (by simp))
  have K1 := Lib.hid (HK.out.trans k1)
  have c4 := (H1.out.alloc (.cells #[] 5)).cell 4 (v := .slice sp l.length sc) rfl
  have c4' := H1.out.cell 4 (v := .slice sp l.length sc) rfl
  clear HH HB k1
  go_wp2_with (at_builtin; refine wpList_app rfl _ _ rfl w1 (.slice sp l.length sc) l _ rfl rfl rfl B1.out HL ?_)
  intro y w2 k2 gy hgy hoy
  have H2 := Lib.hid (k2.has H1.out (by simp))
  have K2 := Lib.hid (K1.out.trans k2)
  obtain ⟨py, cy, hy⟩ := Row.sl (Or.inr ⟨gy, hoy⟩); subst hy
  clear c4 c4' H1 k2 hoy hgy
  go_wp2_with fail
  refine (put_nil _ _).mono ?_
  rintro e w3 ⟨rfl, k3⟩
  have H3 := Lib.hid (k3.has H2.out (by simp))
  have K3 := Lib.hid (K2.out.trans k3)
  have c1 := H3.out.cell 1 (v := .int .i64 n) rfl
  clear k3 H2
  go_wp2_with fail
  refine (get_nil _ _).mono ?_
  rintro e w4 ⟨rfl, k4⟩
  have H4 := Lib.hid (k4.has H3.out (by simp))
  have K4 := Lib.hid (K3.out.trans k4)
  clear c1 k4 H3
  have c1 := H4.out.cell 1 (v := .int .i64 n) rfl
  have c2 := H4.out.cell 2 (v := .int .i64 at') rfl
  have c3 := H4.out.cell 3 (v := .int .u32 x) rfl
  go_wp2_with fail
  refine (garbled_nil _ _ _ _).mono ?_
  rintro e w5 ⟨rfl, k5⟩
  have K5 := Lib.hid (K4.out.trans k5)
  clear c1 c2 c3 k5
  go_wp2_with fail
  refine (bytes_nil _).mono ?_
  rintro e w6 ⟨rfl, rfl⟩
  go_wp2_with fail
  refine (len_nil _).mono ?_
  rintro e w6 ⟨rfl, rfl⟩
  go_wp2_with fail
  go_ret
  exact ⟨rfl, K5.out.toBelow (by simp)⟩
/-- The frames of BagFull. -/
def fsK (k : Nat) : List (List Int) := (List.range k).map (fun i : Nat => [(i : Int) % 256])
theorem fsK_len (k : Nat) : (fsK k).length = k := by simp [fsK]
theorem fsK_succ (k : Nat) : fsK (k + 1) = fsK k ++ [[(k : Int) % 256]] := by simp [fsK, List.range_succ]
theorem fsK_get (n k : Nat) (h : k < n) : (fsK n).getD k [] = [(k : Int) % 256] := by simp [fsK, List.getD_eq_getElem?_getD, h]
def FullRel (W : World) (b m : Nat) (i : Value) (w : World) : Prop :=
  ∃ (k : Nat) (la : Option Nat), k ≤ 4096 ∧ i = .int .i64 (k : Nat) ∧ IsBag w b m la (fsK k) ∧ Kept [] W w ∧ (∀ g, la = some g → W.heap.size ≤ g)
set_option maxRecDepth 100000 in
set_option maxHeartbeats 3200000 in
theorem BagFull_walk (n : Int) (w : World) :
    Calls Try.prog 8 #[.int .i64 n] w fun e w' => e = .returned (.bool true) ∧ Below w.heap.size w w' := by
  obtain ⟨a, ha, hlt⟩ : ∃ a : Nat, wrap64 ((IntKind.u64.wrap n).tmod 4096) = (a : Int) ∧ a < 4096 := by
    obtain ⟨u, hu⟩ : ∃ u : Nat, IntKind.u64.wrap n = (u : Int) := ⟨(IntKind.u64.wrap n).toNat, by rw [IntKind.wrap_u64]; omega⟩
    rw [hu]
    have e : (u : Int).tmod 4096 = ((u % 4096 : Nat) : Int) := by rw [Int.tmod_eq_emod_of_nonneg (by omega)]; omega
    rw [e]
    exact ⟨u % 4096, Go.Proofs.Ytlafkeijikbenab.Bt.wrap64_id (by omega) (by omega), by omega⟩
  go_enter Try.func8, Try.ntmps8
  go_wp2_with fail
  refine (awake_call _).mono ?_
  rintro e w1 ⟨rfl, k1⟩
  have K1 := Lib.hid k1
  have z1 := k1.size
  clear k1
  go_wp2_with fail
  refine (BagC.new_call _).mono ?_
  rintro e w2 ⟨b, m, rfl, k2, h2, sb, sm⟩
  have K2 := Lib.hid (K1.out.trans k2)
  have H2 := Lib.hid h2
  clear k2 h2
  go_wp2_with fail
  go_loopw [4] (FullRel w b m) (fun i _ => 4096 - (intOf i).toNat)
  case atStart => exact ⟨0, none, by omega, rfl, H2.out, K2.out, by simp⟩
  case round =>
    clear H2 K2
    obtain ⟨k, la, hk, rfl, hb, hK, hla⟩ := hrel
    rename_i wr
    have HB := Lib.hid hb
    have K := Lib.hid hK
    have LA := Lib.hid hla
    clear hb hK hla
    rcases Nat.lt_or_ge k 4096 with hk4 | hk4
    · have ob := own_built wr [(k : Int) % 256] (by unfold maxLen; simp)
      have k3 := (Kept.refl [] wr).alloc (.cells #[.int .u8 ((k : Int) % 256)] 5)
      have B3 := Lib.hid (IsBag.fresh HB.out k3)
      have K3 := Lib.hid (K.out.trans k3)
      have OB := Lib.hid (show Bytes (wr.alloc (.cells #[.int .u8 ((k : Int) % 256)] 5)) (.slice (some ⟨wr.heap.size, 0, none⟩) 1 1) [(k : Int) % 256] from ob.bytes)
      clear ob k3
      go_wp2_with fail
      refine (BagC.put_call b m la (fsK k) _ [(k : Int) % 256] _ B3.out OB.out (by simp) (by rw [fsK_len]; exact hk4)).mono ?_
      rintro e w4 ⟨rfl, k4, la', hla', h4⟩
      rw [← fsK_succ] at h4
      have K4 := Lib.hid (K3.out.fresh k4 (by
        intro i hi hl
        simp at hi
        have := K.out.size
        rcases hi with rfl | rfl | hi
        · omega
        · omega
        · exact absurd (LA.out i hi) (by omega)))
      have LA4 : ∀ g, la' = some g → w.heap.size ≤ g := by
        intro g hg
        rcases hla' with h | ⟨g', h, hg'⟩
        · exact LA.out g (h ▸ hg)
        · rw [h] at hg; cases hg; exact Nat.le_trans K3.out.size hg'
      have H4 := Lib.hid h4
      have LA4' := Lib.hid LA4
      have en : (((fsK k).length : Int) != (k : Int)) = false := by rw [fsK_len]; simp
      clear h4 k4 hla' LA4 B3 OB K3
      go_wp2_with fail
      go_roundw
      case rel => exact ⟨k + 1, la', by omega, by go_num, H4.out, K4.out, LA4'.out⟩
      case measure => simp [intOf]; omega
    · obtain rfl : k = 4096 := by omega
      have hnil : Bytes wr (.slice none 0 0) [] := .inl ⟨rfl, rfl⟩
      go_wp2_with fail
      refine (BagC.put_full b m la (fsK 4096) _ [] _ HB.out hnil (by simp) (by rw [fsK_len]; omega)).mono ?_
      rintro e w4 ⟨rfl, k4⟩
      have B4 := Lib.hid (IsBag.fresh HB.out k4)
      have K4 := Lib.hid (K.out.trans k4)
      have G := Lib.hid (get_in b m la (fsK 4096) a _ B4.out (by rw [fsK_len]; exact hlt))
      rw [fsK_get _ _ hlt] at G
      clear k4 HB K LA hnil
      go_wp2_with fail
      refine G.out.mono ?_
      rintro e w5 ⟨y, rfl, k5, h5⟩
      have B5 := Lib.hid (IsBag.fresh B4.out k5)
      have K5 := Lib.hid (K4.out.trans k5)
      have hs := h5.bytes.str
      have Y5 := Lib.hid h5
      have EL : (fsK 4096).length = 4096 := fsK_len _
      have LC := len_call b m la _ _ B5.out
      rw [EL] at LC
      have LC' := Lib.hid LC
      have ob := (own_built w5 [(a : Int) % 256] (by unfold maxLen; simp)).bytes.str
      have hs2 : (convert 22 9 (.slice (some ⟨w5.heap.size, 0, none⟩) 1 1)).run Try.prog (w5.alloc (.cells #[.int .u8 ((a : Int) % 256)] 5)) = .ok (.string (strOfNums [(a : Int) % 256])) (w5.alloc (.cells #[.int .u8 ((a : Int) % 256)] 5)) := ob
      have K6 := Lib.hid (K5.out.alloc (.cells #[.int .u8 ((a : Int) % 256)] 5))
      clear k5 h5 G B4 K4 ob LC
      go_wp2_with fail
      refine LC'.out.mono ?_
      rintro e w6 ⟨rfl, rfl⟩
      go_wp2_with fail
      go_ret
      exact ⟨rfl, K6.out.toBelow (by simp)⟩
/-- What the cells of a struct hold. -/
theorem op15_cells {w : World} {n : Nat} {cs : List Value} (h : Fits Try.prog w n 69 cs) :
    ∃ (x0 : Int) (x1 : Int) (x2 : Int) (x3 : Int) (x4 : Option Addr) (lx4 : Nat) (cx4 : Nat), cs = [.int .i64 x0, .int .i64 x1, .int .i64 x2, .int .u32 x3, .slice x4 lx4 cx4] ∧ (Lit.int .i64 x0).wf = true ∧ (Lit.int .i64 x1).wf = true ∧ (Lit.int .i64 x2).wf = true ∧ (Lit.int .u32 x3).wf = true ∧ (∃ n, Fits Try.prog w n 22 [.slice x4 lx4 cx4]) := by
  have hl := fits_len Try.underlying69 h 5 (by kernel_rfl)
  match cs, hl with
  | [v0, v1, v2, v3, v4], _ =>
  obtain ⟨n1, h1⟩ := fits_field Try.underlying69 h 0 _ rfl 1 (by kernel_rfl) [v0] rfl
  obtain ⟨x0, e1, w1⟩ := fits_int Try.underlying3 h1
  obtain rfl : v0 = .int .i64 x0 := (List.cons.inj e1).1
  obtain ⟨n2, h2⟩ := fits_field Try.underlying69 h 1 _ rfl 1 (by kernel_rfl) [v1] rfl
  obtain ⟨x1, e2, w2⟩ := fits_int Try.underlying3 h2
  obtain rfl : v1 = .int .i64 x1 := (List.cons.inj e2).1
  obtain ⟨n3, h3⟩ := fits_field Try.underlying69 h 2 _ rfl 1 (by kernel_rfl) [v2] rfl
  obtain ⟨x2, e3, w3⟩ := fits_int Try.underlying3 h3
  obtain rfl : v2 = .int .i64 x2 := (List.cons.inj e3).1
  obtain ⟨n4, h4⟩ := fits_field Try.underlying69 h 3 _ rfl 1 (by kernel_rfl) [v3] rfl
  obtain ⟨x3, e4, w4⟩ := fits_int Try.underlying63 h4
  obtain rfl : v3 = .int .u32 x3 := (List.cons.inj e4).1
  obtain ⟨n5, h5⟩ := fits_field Try.underlying69 h 4 _ rfl 1 (by kernel_rfl) [v4] rfl
  obtain ⟨x4, lx4, cx4, e5⟩ := fits_slice Try.underlying22 h5
  obtain rfl : v4 = .slice x4 lx4 cx4 := (List.cons.inj e5).1
  exact ⟨x0, x1, x2, x3, x4, lx4, cx4, rfl, w1, w2, w3, w4, ⟨_, h5⟩⟩
theorem BagNil_law (cs : Array Value) (w : World) (hz : cs.size = 5) (h : ∃ n, Fits Try.prog w n 69 (Value.agg cs).cells.toList) :
    Calls Try.prog 11 #[.agg cs] w fun e w' => e = .returned (.bool true) ∧ Below w.heap.size w w' := by
  obtain ⟨n, h⟩ := h
  obtain ⟨kind, x1, x2, x3, a, len, cap, e, _, _, _, _, m, hf⟩ := op15_cells h
  obtain ⟨cl⟩ := cs
  obtain rfl : cl = _ := e
  obtain ⟨l, rfl, hb, hl, _⟩ := bytes_of_fits hf
  exact BagNil_walk kind x1 x2 x3 _ l w hb hl
theorem BagFull_law (n : Int) (w : World) (_ : (Lit.int .i64 n).wf = true) :
    Calls Try.prog 8 #[.int .i64 n] w fun e w' => e = .returned (.bool true) ∧ Below w.heap.size w w' := BagFull_walk n w
end Go.Proofs.Ytlafkeijikbenab.S15

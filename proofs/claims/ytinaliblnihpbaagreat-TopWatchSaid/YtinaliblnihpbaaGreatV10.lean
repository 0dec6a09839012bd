/- The walks and the plain laws of HostW, DevA, DevB, DevS, DevR, DevU. -/
import Derived.Test.YtinaliblnihpbaaGreatV09
import Derived.Test.YtinaliblnihpbaaGreatV07
import Derived.Test.YtinaliblnihpbaaGreatV04
set_option linter.unusedVariables false
set_option linter.unusedSimpArgs false
open Go.Lib (hid)
namespace Go.Proofs.YtinaliblnihpbaaGreat
namespace HostC
open Go Go.RowKit Gf SlC CrcW SlM Hp Sl Ow DiagC ValveC DogC Kx TM EncW ParW UnW UEnc NumW UDecW
variable {G : Nat → Prop} {w w' w'' : World} {b d v g o lg k : Nat} {s : Value} {x y : H}
theorem read_ok (hx : HOk x) (hG : Opn G w) (h : HAt G w b d v g o lg k s x) (u : U) (hr : URange u) (hl : Law u) (vb : Value) (hs : Bytes w vb (frame u)) :
    Calls Tryz.prog 99 #[.pointer (some ⟨b, 0, none⟩), vb] w fun e w' => e = .returned (.int .i64 (x.receive (sigB x.p) u 0).2) ∧ KG G w w' ∧ HAt G w' b d v g o lg k s (x.receive (sigB x.p) u 0).1 := by
  by_cases h1 : 17 ≤ u.kind ∧ u.kind ≤ 22
  case neg =>
    have e : x.receive (sigB x.p) u 0 = (x, 43) := by unfold H.receive; rw [if_neg (by simp), if_pos h1]
    rw [e]; exact read43 hx hG h u hr hl vb hs h1
  by_cases h2 : u.code = x.p.code
  case neg =>
    have e : x.receive (sigB x.p) u 0 = (x, 44) := by unfold H.receive; rw [if_neg (by simp), if_neg (by simp [h1]), if_pos h2]
    rw [e]; exact read44 hx hG h u hr hl vb hs h1 h2
  by_cases h3 : x.state = 1
  case pos =>
    have e : x.receive (sigB x.p) u 0 = x.offered (sigB x.p) u := by unfold H.receive; rw [if_neg (by simp), if_neg (by simp [h1]), if_neg (by simp [h2]), if_pos h3]
    rw [e]; exact readI hx hG h u hr hl vb hs h1 h2 h3
  by_cases h4 : u.ses = x.ses
  case neg =>
    have e : x.receive (sigB x.p) u 0 = (x, 130) := by unfold H.receive; rw [if_neg (by simp), if_neg (by simp [h1]), if_neg (by simp [h2]), if_neg h3, if_pos (.inl h4)]
    rw [e]; exact readS hx hG h u hr hl vb hs h1 h2 h3 h4
  by_cases h5 : x.state = 5
  case pos =>
    have e : x.receive (sigB x.p) u 0 = (x, 130) := by unfold H.receive; rw [if_neg (by simp), if_neg (by simp [h1]), if_neg (by simp [h2]), if_neg h3, if_pos (.inr h5)]
    rw [e]; exact readD hx hG h u hr hl vb hs h1 h2 h3 h4 h5
  have e : x.receive (sigB x.p) u 0 = x.take u := by unfold H.receive; rw [if_neg (by simp), if_neg (by simp [h1]), if_neg (by simp [h2]), if_neg h3, if_neg (by simp [h4, h5])]
  rw [e]; exact readT hx hG h u hr hl vb hs h1 h2 h3 h4 h5
theorem take_code (x : H) (u : U) : (x.take u).2 = 0 ∨ (x.take u).2 = 130 := by
  unfold H.take
  split
  · exact .inl rfl
  split
  · exact .inl rfl
  split
  · exact .inl rfl
  split
  · exact .inl rfl
  · exact .inr rfl
theorem offered_code (x : H) (sig : List Int) (u : U) : (x.offered sig u).2 = 0 ∨ (x.offered sig u).2 = 130 ∨ (x.offered sig u).2 = 91 := by
  unfold H.offered
  split
  · exact .inr (.inl rfl)
  split
  · exact .inl rfl
  · exact .inr (.inr rfl)
theorem receive_code (x : H) (sig : List Int) (u : U) : (x.receive sig u 0).2 = 0 ∨ ∃ n : Nat, (x.receive sig u 0).2 = n ∧ 1 ≤ n ∧ n < 1000 := by
  unfold H.receive
  rw [if_neg (by simp)]
  split
  · exact .inr ⟨43, rfl, by decide, by decide⟩
  split
  · exact .inr ⟨44, rfl, by decide, by decide⟩
  split
  · rcases offered_code x sig u with h | h | h
    · exact .inl h
    · exact .inr ⟨130, h, by decide, by decide⟩
    · exact .inr ⟨91, h, by decide, by decide⟩
  split
  · exact .inr ⟨130, rfl, by decide, by decide⟩
  · rcases take_code x u with h | h
    · exact .inl h
    · exact .inr ⟨130, h, by decide, by decide⟩
set_option maxRecDepth 100000 in
/-- Receive, whatever its read comes to. -/
theorem receive_from (y : H) (r : Int) (hr : r = 0 ∨ ∃ n : Nat, r = n ∧ 1 ≤ n ∧ n < 1000) (hG : Opn G w) (vb : Value)
    (hC : Calls Tryz.prog 99 #[.pointer (some ⟨b, 0, none⟩), vb] w fun e w' => e = .returned (.int .i64 r) ∧ KG G w w' ∧ HAt G w' b d v g o lg k s y) :
    Calls Tryz.prog 68 #[.pointer (some ⟨b, 0, none⟩), vb] w fun e w' => e = .returned (.int .i64 r) ∧ KG G w w' ∧ HAt G w' b d v g o lg k s y := by
  have HC := hid hC
  have HG := hid hG
  clear hC hG
  rcases hr with rfl | ⟨n, rfl, h1, h2⟩
  · go_enter Tryz.func68, Tryz.ntmps68
    go_wp2_with fail
    refine HC.out.mono ?_
    rintro e w1 ⟨rfl, k1, h1⟩
    have K1 := hid k1
    have H1 := hid h1
    clear k1 h1
    go_wp2_with fail
    go_ret
    exact ⟨rfl, K1.out, H1.out⟩
  · have N1 := hid h1
    have N2 := hid h2
    have e1 : ((n : Int) != 0) = true := by simp; omega
    clear h1 h2
    go_enter Tryz.func68, Tryz.ntmps68
    go_wp2_with fail
    refine HC.out.mono ?_
    rintro e w1 ⟨rfl, k1, h1⟩
    have K1 := hid k1
    have H1 := hid h1
    have HG1 := hid (HG.out.kg k1)
    have c7 := h1.top.cell 7 (v := .pointer (some ⟨lg, 0, none⟩)) rfl
    have c9 := h1.top.cell 9 (v := .int .u32 y.ses) rfl
    have c10 := h1.top.cell 10 (v := .int .u32 y.num) rfl
    clear k1 h1
    go_wp2_with fail
    have c7' : w1.drew.cell? ⟨b, 7, none⟩ = some (.pointer (some ⟨lg, 0, none⟩)) := c7
    have c9' : w1.drew.cell? ⟨b, 9, none⟩ = some (.int .u32 y.ses) := c9
    have c10' : w1.drew.cell? ⟨b, 10, none⟩ = some (.int .u32 y.num) := c10
    (refine wp_region_still_tail 15 (by kernel_rfl) (by kernel_rfl) ?_; simp only [List.take_succ_cons, List.take_zero, List.drop_succ_cons, List.drop_zero]; (repeat still_step); refine wpStill_nil ?_)
    change wpList _ _ _ _ _ w1.drew
    go_wp2_with fail
    have H2 := hid (H1.out.nil ((Kept.refl [] w1).drew))
    refine (noted lg n N1.out N2.out y.ses y.num w1.drew HG1.out H2.out.log).mono ?_
    rintro e w2 ⟨⟨r, rfl⟩, k2, h2⟩
    go_wp2_with fail
    go_ret
    exact ⟨rfl, K1.out.drew.trans (k2.kg HG1.out), H2.out.logs k2 h2⟩
theorem receive_call (hx : HOk x) (hG : Opn G w) (h : HAt G w b d v g o lg k s x) (u : U) (hr : URange u) (hl : Law u) (vb : Value) (hs : Bytes w vb (frame u)) :
    Calls Tryz.prog 68 #[.pointer (some ⟨b, 0, none⟩), vb] w fun e w' => e = .returned (.int .i64 (x.receive (sigB x.p) u 0).2) ∧ KG G w w' ∧ HAt G w' b d v g o lg k s (x.receive (sigB x.p) u 0).1 :=
  receive_from _ _ (receive_code _ _ _) hG vb (read_ok hx hG h u hr hl vb hs)
theorem receive_bad (hx : HOk x) (hG : Opn G w) (h : HAt G w b d v g o lg k s x) (vb : Value) (L : List Int) (hs : Bytes w vb L) (hb : By L) (l1 : 19 ≤ L.length) (l2 : L.length ≤ 27) (hc : crc L ≠ 0) :
    Calls Tryz.prog 68 #[.pointer (some ⟨b, 0, none⟩), vb] w fun e w' => e = .returned (.int .i64 42) ∧ KG G w w' ∧ HAt G w' b d v g o lg k s x :=
  receive_from x 42 (.inr ⟨42, rfl, by decide, by decide⟩) hG vb ((read_bad hx hG h vb L hs hb l1 l2 hc).mono (fun e w' q => ⟨q.1, .nil q.2, h.nil q.2⟩))
def rcells (p : P) (u5 u6 : Value) (lg : Nat) (u8 u9 u10 u11 u12 u13 u14 u15 : Value) : List Value := [.int .u32 p.code, .int .i64 p.out, .int .i64 p.inn, .int .i64 p.watch, .int .u32 p.count, u5, u6, .pointer (some ⟨lg, 0, none⟩), u8, u9, u10, u11, u12, u13, u14, u15]
set_option maxRecDepth 100000 in
set_option maxHeartbeats 1600000 in
/-- Reset makes a host as at the beginning, whatever it was. -/
theorem reset_raw (p : P) (hp : POk p) (u5 u6 u8 u9 u10 u11 u12 u13 u14 u15 : Value) (hG : Opn G w) (ht : Has w b 134 (rcells p u5 u6 lg u8 u9 u10 u11 u12 u13 u14 u15)) (hl : IsLog G w lg) (gb : G b) :
    Calls Tryz.prog 60 #[.pointer (some ⟨b, 0, none⟩)] w fun e w' => e = .returned (.int .i64 0) ∧ KG G w w' ∧ hostOf G w' b (H.new p) := by
  have HP := hid hp
  have HG := hid hG
  have HT := hid ht
  have HL := hid hl
  have c3 := ht.cell 3 (v := .int .i64 p.watch) rfl
  clear ht hl hp hG
  go_enter Tryz.func60, Tryz.ntmps60
  go_wp2_with fail
  refine (DogC.new_call p.watch HP.out.watch.1 HP.out.watch.2 w).mono ?_
  rintro e w1 ⟨rfl, k1, h1⟩
  have GD := hid (HG.out _ (Nat.le_refl _))
  generalize w.heap.size = d' at h1 GD ⊢
  have T1 := hid (k1.has HT.out (by simp))
  have L1 := HL.out.kept k1 (by simp)
  have c5 := T1.out.cell 5 (v := u5) rfl
  have z5 := T1.out.free 5
  have c2 := T1.out.cell 2 (v := .int .i64 p.inn) rfl
  have q1 := (Kept.refl [b] w1).set ⟨b, 5, none⟩ (.pointer (some ⟨d', 0, none⟩)) (by simp)
  have D2 := hid (h1.kept q1 (by simpa using Ow.Has.ne h1.has T1.out (by decide)))
  have L2 := hid (Kx.IsLog.kept2 L1 q1 (fun i hi hl => .inr (by simp at hi; subst hi; exact ⟨_, _, T1.out, by decide⟩)))
  have T2 := hid (T1.out.set 5 (.pointer (some ⟨d', 0, none⟩)))
  have K2 := hid ((KG.nil (G := G) k1).set (i := 5) (v := .pointer (some ⟨d', 0, none⟩)) gb)
  clear k1 h1 L1 q1
  go_wp2_with fail
  have T2 : Hid (Has _ b 134 (rcells p (.pointer (some ⟨d', 0, none⟩)) u6 lg u8 u9 u10 u11 u12 u13 u14 u15)) := T2
  generalize w1.setCell ⟨b, 5, none⟩ (.pointer (some ⟨d', 0, none⟩)) = w2 at D2 L2 T2 K2 ⊢
  clear c5 z5 c2 c3 T1
  refine (ValveC.new_call (GG := G) p.inn HP.out.inn.1 HP.out.inn.2 w2).mono ?_
  rintro e w3 ⟨v', g', o', rfl, k3, h3, l1, l2, l3⟩
  have HG2 := HG.out.kg K2.out
  have GV := hid (And.intro (HG2 _ l1) (And.intro (HG2 _ l2) (HG2 _ l3)))
  have K3 := hid (K2.out.trans (.nil k3))
  have V3 := hid h3
  have T3 := hid (k3.has T2.out (by simp))
  have D3 := hid (D2.out.kept k3 (by simp))
  have L3 := hid (L2.out.kept k3 (by simp))
  clear k3 h3 l1 l2 l3 HG2
  have GK := hid (HG.out.kg K3.out w3.heap.size (Nat.le_refl _))
  have EN := hid (Int.toNat_of_nonneg (show 0 ≤ p.out by have := HP.out.out; omega))
  have MK : ∀ W, (Instr.makeSlice 36 (.int .i64 p.out) (.int .i64 p.out)).run Tryz.prog W = .ok (.slice (some ⟨W.heap.size, 0, none⟩) p.out.toNat p.out.toNat) (W.alloc (.cells (U8 (List.replicate p.out.toNat 0)).toArray 5)) := fun W => by
    have := SlC.run_makeN p.out.toNat (by have := HP.out.out; omega) W
    rw [EN.out] at this; exact this
  have hb := T3.out.lt
  have c6 := T3.out.cell 6 (v := u6) rfl
  have z6 := T3.out.free 6
  have c1 := T3.out.cell 1 (v := .int .i64 p.out) rfl
  have b8 := T3.out.cell 8 (v := u8) rfl
  have z8 := T3.out.free 8
  have b9 := T3.out.cell 9 (v := u9) rfl
  have z9 := T3.out.free 9
  have b10 := T3.out.cell 10 (v := u10) rfl
  have z10 := T3.out.free 10
  have b11 := T3.out.cell 11 (v := u11) rfl
  have z11 := T3.out.free 11
  have b12 := T3.out.cell 12 (v := u12) rfl
  have z12 := T3.out.free 12
  have b13 := T3.out.cell 13 (v := u13) rfl
  have z13 := T3.out.free 13
  have b14 := T3.out.cell 14 (v := u14) rfl
  have z14 := T3.out.free 14
  have b15 := T3.out.cell 15 (v := u15) rfl
  have z15 := T3.out.free 15
  go_wp2_with fail
  go_ret
  have k4 := ((((((((((Kept.refl [b] w3).set ⟨b, 6, none⟩ (.pointer (some ⟨v', 0, none⟩)) (by simp)).set ⟨b, 8, none⟩ (.int .i64 1) (by simp)).set ⟨b, 9, none⟩ (.int .u32 0) (by simp)).set ⟨b, 10, none⟩ (.int .u32 0) (by simp)).set ⟨b, 11, none⟩ (.int .u32 0) (by simp)).set ⟨b, 12, none⟩ (.bool false) (by simp)).set ⟨b, 13, none⟩ (.int .i64 0) (by simp)).set ⟨b, 14, none⟩ (.slice (some ⟨w3.heap.size, 0, none⟩) p.out.toNat p.out.toNat) (by simp)).set ⟨b, 15, none⟩ (.bool false) (by simp)).alloc (.cells (U8 (List.replicate p.out.toNat 0)).toArray 5)
  have t4 : Has ((((((((((w3.setCell ⟨b, 6, none⟩ (.pointer (some ⟨v', 0, none⟩))).setCell ⟨b, 8, none⟩ (.int .i64 1)).setCell ⟨b, 9, none⟩ (.int .u32 0)).setCell ⟨b, 10, none⟩ (.int .u32 0)).setCell ⟨b, 11, none⟩ (.int .u32 0)).setCell ⟨b, 12, none⟩ (.bool false)).setCell ⟨b, 13, none⟩ (.int .i64 0)).setCell ⟨b, 14, none⟩ (.slice (some ⟨w3.heap.size, 0, none⟩) p.out.toNat p.out.toNat)).setCell ⟨b, 15, none⟩ (.bool false)).alloc (.cells (U8 (List.replicate p.out.toNat 0)).toArray 5)) b 134 (hcells d' v' lg (.slice (some ⟨w3.heap.size, 0, none⟩) p.out.toNat p.out.toNat) (H.new p)) := (((((((((T3.out.set 6 (.pointer (some ⟨v', 0, none⟩))).set 8 (.int .i64 1)).set 9 (.int .u32 0)).set 10 (.int .u32 0)).set 11 (.int .u32 0)).set 12 (.bool false)).set 13 (.int .i64 0)).set 14 (.slice (some ⟨w3.heap.size, 0, none⟩) p.out.toNat p.out.toNat)).set 15 (.bool false)).alloc (.cells (U8 (List.replicate p.out.toNat 0)).toArray 5)
  have e9 : (((((((((w3.setCell ⟨b, 6, none⟩ (.pointer (some ⟨v', 0, none⟩))).setCell ⟨b, 8, none⟩ (.int .i64 1)).setCell ⟨b, 9, none⟩ (.int .u32 0)).setCell ⟨b, 10, none⟩ (.int .u32 0)).setCell ⟨b, 11, none⟩ (.int .u32 0)).setCell ⟨b, 12, none⟩ (.bool false)).setCell ⟨b, 13, none⟩ (.int .i64 0)).setCell ⟨b, 14, none⟩ (.slice (some ⟨w3.heap.size, 0, none⟩) p.out.toNat p.out.toNat)).setCell ⟨b, 15, none⟩ (.bool false)).heap.size = w3.heap.size := by simp
  have o4 := Has.new (((((((((w3.setCell ⟨b, 6, none⟩ (.pointer (some ⟨v', 0, none⟩))).setCell ⟨b, 8, none⟩ (.int .i64 1)).setCell ⟨b, 9, none⟩ (.int .u32 0)).setCell ⟨b, 10, none⟩ (.int .u32 0)).setCell ⟨b, 11, none⟩ (.int .u32 0)).setCell ⟨b, 12, none⟩ (.bool false)).setCell ⟨b, 13, none⟩ (.int .i64 0)).setCell ⟨b, 14, none⟩ (.slice (some ⟨w3.heap.size, 0, none⟩) p.out.toNat p.out.toNat)).setCell ⟨b, 15, none⟩ (.bool false)) 5 (U8 (List.replicate p.out.toNat 0))
  rw [e9] at o4
  refine ⟨rfl, K3.out.trans (.one k4 gb), d', v', g', o', lg, w3.heap.size, _, t4, D3.out.kept k4 (by simpa using Ow.Has.ne D3.out.has T3.out (by decide)), V3.out.kept2 k4 (fun i hi hl => by simp at hi; subst hi; exact ⟨_, _, T3.out, by decide, by decide, by decide, by decide⟩), Kx.IsLog.kept2 L3.out k4 (fun i hi hl => .inr (by simp at hi; subst hi; exact ⟨_, _, T3.out, by decide⟩)), ⟨p.out.toNat, _, ?_, o4, ?_, ?_, ?_, ?_⟩, gb, GD.out, GV.out.1, GV.out.2.1, GV.out.2.2, GK.out⟩
  · simp [H.new]
  · simp [H.new]
  · have := HP.out.out; unfold maxLen; omega
  · simp [U8]
  · simp [H.new, U8]
theorem reset_call (hx : HOk x) (hG : Opn G w) (h : HAt G w b d v g o lg k s x) :
    Calls Tryz.prog 60 #[.pointer (some ⟨b, 0, none⟩)] w fun e w' => e = .returned (.int .i64 0) ∧ KG G w w' ∧ hostOf G w' b (H.new x.p) :=
  reset_raw x.p hx.p _ _ _ _ _ _ _ _ _ _ hG h.top h.log h.gb
set_option maxRecDepth 100000 in
theorem new_call (p : P) (hp : POk p) (G : Nat → Prop) (w : World) (hG : Opn G w) :
    Calls Tryz.prog 30 #[pval p] w fun e w' => ∃ b, e = .returned (.tuple #[.pointer (some ⟨b, 0, none⟩), .int .i64 0]) ∧ KG G w w' ∧ hostOf G w' b (H.new p) ∧ w.heap.size ≤ b := by
  have HP := hid hp
  have HG := hid hG
  have CK := hid (fun w => check_call p HP.out w)
  clear hp hG
  unfold pval at CK ⊢
  go_enter Tryz.func30, Tryz.ntmps30
  go_wp2_with fail
  have K0 := hid ((Kept.refl [] w).alloc (.cells #[.int .u32 p.code, .int .i64 p.out, .int .i64 p.inn, .int .i64 p.watch, .int .u32 p.count] 50))
  have P0 := hid (Has.new w 50 [.int .u32 p.code, .int .i64 p.out, .int .i64 p.inn, .int .i64 p.watch, .int .u32 p.count])
  generalize w.alloc (.cells #[.int .u32 p.code, .int .i64 p.out, .int .i64 p.inn, .int .i64 p.watch, .int .u32 p.count] 50) = w0 at K0 P0 ⊢
  obtain ⟨R, hR⟩ : ∃ R, R = w.heap.size := ⟨_, rfl⟩
  rw [← hR] at P0 ⊢
  clear hR
  refine (CK.out w0).mono ?_
  rintro e w1 ⟨rfl, k1⟩
  have K1 := hid (K0.out.trans k1)
  have P1 := hid (k1.has P0.out (by simp))
  have p0 := P1.out.cell 0 rfl
  have p1 := P1.out.cell 1 rfl
  have p2 := P1.out.cell 2 rfl
  have p3 := P1.out.cell 3 rfl
  have p4 := P1.out.cell 4 rfl
  clear k1
  go_wp2_with fail
  have SK := hid (show ∀ w', Kept [] w1 w' → (w'.cell? ⟨R, 0, none⟩ = some (.int .u32 p.code) ∧ w'.cell? ⟨R, 1, none⟩ = some (.int .i64 p.out) ∧ w'.cell? ⟨R, 2, none⟩ = some (.int .i64 p.inn) ∧ w'.cell? ⟨R, 3, none⟩ = some (.int .i64 p.watch) ∧ w'.cell? ⟨R, 4, none⟩ = some (.int .u32 p.count)) from fun w' q => ⟨(q.has P1.out (by simp)).cell 0 rfl, (q.has P1.out (by simp)).cell 1 rfl, (q.has P1.out (by simp)).cell 2 rfl, (q.has P1.out (by simp)).cell 3 rfl, (q.has P1.out (by simp)).cell 4 rfl⟩)
  have dd := SK.out _ ((Kept.refl [] w1).drew)
  have HG1 := hid (HG.out.kg (KG.nil (G := G) (K1.out.drew)))
  have DN := hid (DiagC.new_call G w1.drew HG1.out)
  clear p0 p1 p2 p3 p4
  go_region_held3 (fun w' => w'.cell? ⟨R, 0, none⟩ = some (.int .u32 p.code) ∧ w'.cell? ⟨R, 1, none⟩ = some (.int .i64 p.out) ∧ w'.cell? ⟨R, 2, none⟩ = some (.int .i64 p.inn) ∧ w'.cell? ⟨R, 3, none⟩ = some (.int .i64 p.watch) ∧ w'.cell? ⟨R, 4, none⟩ = some (.int .u32 p.count)) (first | with_reducible assumption | with_reducible exact SK.out _ (KW.out.alloc _)) ((go_at_call 59; with_reducible refine DN.out.mono ?_; rintro e w2 ⟨lg, rfl, k2, h2, l2⟩; have KW := hid (((Kept.refl [] w1).drew).trans k2); have dd2 := SK.out _ (((Kept.refl [] w1).drew).trans k2); have K2 := hid (K1.out.drew.trans k2); have L2 := hid h2; clear k2 h2 l2))
  clear dd dd2
  have K3 := hid (K2.out.alloc (.cells #[.int .u32 p.code, .int .i64 p.out, .int .i64 p.inn, .int .i64 p.watch, .int .u32 p.count, .pointer none, .pointer none, .pointer (some ⟨lg, 0, none⟩), .int .i64 0, .int .u32 0, .int .u32 0, .int .u32 0, .bool false, .int .i64 0, .slice none 0 0, .bool false] 134))
  have T3 := hid (show Has _ _ 134 (rcells p (.pointer none) (.pointer none) lg (.int .i64 0) (.int .u32 0) (.int .u32 0) (.int .u32 0) (.bool false) (.int .i64 0) (.slice none 0 0) (.bool false)) from Has.new w2 134 [.int .u32 p.code, .int .i64 p.out, .int .i64 p.inn, .int .i64 p.watch, .int .u32 p.count, .pointer none, .pointer none, .pointer (some ⟨lg, 0, none⟩), .int .i64 0, .int .u32 0, .int .u32 0, .int .u32 0, .bool false, .int .i64 0, .slice none 0 0, .bool false])
  have L3 := hid (L2.out.kept ((Kept.refl [] w2).alloc (.cells #[.int .u32 p.code, .int .i64 p.out, .int .i64 p.inn, .int .i64 p.watch, .int .u32 p.count, .pointer none, .pointer none, .pointer (some ⟨lg, 0, none⟩), .int .i64 0, .int .u32 0, .int .u32 0, .int .u32 0, .bool false, .int .i64 0, .slice none 0 0, .bool false] 134)) (by simp))
  generalize w2.alloc (.cells #[.int .u32 p.code, .int .i64 p.out, .int .i64 p.inn, .int .i64 p.watch, .int .u32 p.count, .pointer none, .pointer none, .pointer (some ⟨lg, 0, none⟩), .int .i64 0, .int .u32 0, .int .u32 0, .int .u32 0, .bool false, .int .i64 0, .slice none 0 0, .bool false] 134) = w3 at K3 T3 L3 ⊢
  have BB := hid K2.out.size
  generalize w2.heap.size = b at T3 BB ⊢
  have HG3 := hid (HG.out.kg (KG.nil (G := G) K3.out))
  go_wp2_with fail
  refine (reset_raw p HP.out _ _ _ _ _ _ _ _ _ _ HG3.out T3.out L3.out (HG.out _ BB.out)).mono ?_
  rintro e w4 ⟨rfl, k4, h4⟩
  have K4 := hid k4
  have H4 := hid h4
  clear k4 h4
  go_wp2_with fail
  go_ret2
  exact ⟨b, rfl, (KG.nil K3.out).trans K4.out, H4.out, BB.out⟩
end HostC
namespace DevC
open Go Go.RowKit Hp Sl Ow DiagC ValveC DogC Kx TM MemC CellC HostC
def dcells (m c d v lg : Nat) (s : Value) (x : D) : List Value := [.int .u32 x.p.code, .int .i64 x.p.out, .int .i64 x.p.inn, .int .i64 x.p.watch, .int .u32 x.p.count, .pointer (some ⟨m, 0, none⟩), .int .u32 x.c.max, .pointer (some ⟨c, 0, none⟩), .pointer (some ⟨d, 0, none⟩), .pointer (some ⟨v, 0, none⟩), .pointer (some ⟨lg, 0, none⟩), .int .i64 x.state, .int .u32 x.ses, .int .u32 x.num, .int .u32 x.sent, .int .i64 x.odd, s, .bool x.hold]
structure DAt (G : Nat → Prop) (w : World) (b d v g o lg k c m mb : Nat) (s : Value) (x : D) : Prop where
  top : Has w b 142 (dcells m c d v lg s x)
  dog : IsDog w d x.p.watch x.since
  val : IsV G w v g o x.v
  log : IsLog G w lg
  own : Own w k s x.value
  cel : IsCell w c m x.c
  mem : IsMem w m mb x.m
  gb : G b
  gd : G d
  gv : G v
  gg : G g
  go : G o
  gk : G k
  gc : G c
  nm : ¬ G m
  nmb : ¬ G mb
variable {G : Nat → Prop} {w w' w'' : World} {b d v g o lg k c m mb : Nat} {s : Value} {x y : D}
theorem DAt.nil (h : DAt G w b d v g o lg k c m mb s x) (q : Kept [] w w') : DAt G w' b d v g o lg k c m mb s x :=
  ⟨q.has h.top (by simp), h.dog.kept q (by simp), h.val.kept q (by simp), h.log.kept q (by simp), h.own.kept q (by simp), q.has h.cel (by simp), h.mem.kept q (by simp) (by simp), h.gb, h.gd, h.gv, h.gg, h.go, h.gk, h.gc, h.nm, h.nmb⟩
theorem memH (h : IsMem w m mb x.m) : (∃ cs, Has w m 126 cs) ∧ ∃ cs, Has w mb 5 cs := by obtain ⟨wr, a, b, _⟩ := h; exact ⟨⟨_, a⟩, ⟨_, b⟩⟩
theorem DAt.dogs {n : Int} (h : DAt G w b d v g o lg k c m mb s x) (q : Kept [d] w w') (hd : IsDog w' d x.p.watch n) : DAt G w' b d v g o lg k c m mb s { x with since := n } := by
  have e1 : b ≠ d := Ow.Has.ne h.top h.dog.has (by decide)
  obtain ⟨⟨c1, m1⟩, ⟨c2, m2⟩⟩ := memH h.mem
  refine ⟨q.has h.top (by simpa using e1), hd, h.val.kept2 q (fun i hi hl => ?_), Kx.IsLog.kept2 h.log q (fun i hi hl => .inr ?_), h.own.kept q ?_, q.has h.cel (by simpa using Ow.Has.ne h.cel h.dog.has (by decide)), h.mem.kept q (by simpa using Ow.Has.ne m1 h.dog.has (by decide)) (by simpa using Ow.Has.ne m2 h.dog.has (by decide)), h.gb, h.gd, h.gv, h.gg, h.go, h.gk, h.gc, h.nm, h.nmb⟩
  · simp at hi; subst hi; exact ⟨_, _, h.dog.has, by decide, by decide, by decide, by decide⟩
  · simp at hi; subst hi; exact ⟨_, _, h.dog.has, by decide⟩
  · simpa using ValveC.Own.ne h.own h.dog.has (by decide)
theorem DAt.valo {z : V} {o' : Nat} (h : DAt G w b d v g o lg k c m mb s x) (q : Kept [v, g, o] w w') (hz : IsV G w' v g o' z) (ho : G o') : DAt G w' b d v g o' lg k c m mb s { x with v := z } := by
  obtain ⟨⟨c1, h1⟩, ⟨c2, h2⟩, ⟨c3, h3⟩⟩ := hasV h.val
  obtain ⟨⟨c4, m1⟩, ⟨c5, m2⟩⟩ := memH h.mem
  refine ⟨q.has h.top ?_, h.dog.kept q ?_, hz, Kx.IsLog.kept2 h.log q (fun i hi hl => .inr ?_), h.own.kept q ?_, q.has h.cel ?_, h.mem.kept q ?_ ?_, h.gb, h.gd, h.gv, h.gg, ho, h.gk, h.gc, h.nm, h.nmb⟩
  · have a1 := Ow.Has.ne h.top h1 (by decide); have a2 := Ow.Has.ne h.top h2 (by decide); have a3 := Ow.Has.ne h.top h3 (by decide)
    simp; exact ⟨a1, a2, a3⟩
  · have a1 := Ow.Has.ne h.dog.has h1 (by decide); have a2 := Ow.Has.ne h.dog.has h2 (by decide); have a3 := Ow.Has.ne h.dog.has h3 (by decide)
    simp; exact ⟨a1, a2, a3⟩
  · simp at hi
    rcases hi with rfl | rfl | rfl
    · exact ⟨_, _, h1, by decide⟩
    · exact ⟨_, _, h2, by decide⟩
    · exact ⟨_, _, h3, by decide⟩
  · have a1 := ValveC.Own.ne h.own h1 (by decide); have a2 := ValveC.Own.ne h.own h2 (by decide); have a3 := ValveC.Own.ne h.own h3 (by decide)
    simp; exact ⟨a1, a2, a3⟩
  · have a1 := Ow.Has.ne h.cel h1 (by decide); have a2 := Ow.Has.ne h.cel h2 (by decide); have a3 := Ow.Has.ne h.cel h3 (by decide)
    simp; exact ⟨a1, a2, a3⟩
  · have a1 := Ow.Has.ne m1 h1 (by decide); have a2 := Ow.Has.ne m1 h2 (by decide); have a3 := Ow.Has.ne m1 h3 (by decide)
    simp; exact ⟨a1, a2, a3⟩
  · have a1 := Ow.Has.ne m2 h1 (by decide); have a2 := Ow.Has.ne m2 h2 (by decide); have a3 := Ow.Has.ne m2 h3 (by decide)
    simp; exact ⟨a1, a2, a3⟩
theorem DAt.vals {z : V} (h : DAt G w b d v g o lg k c m mb s x) (q : Kept [v, g, o] w w') (hz : IsV G w' v g o z) : DAt G w' b d v g o lg k c m mb s { x with v := z } := h.valo q hz h.go
theorem DAt.one {z : V} (h : DAt G w b d v g o lg k c m mb s x) (q : Kept [v] w w') (hz : IsV G w' v g o z) : DAt G w' b d v g o lg k c m mb s { x with v := z } := h.vals (q.mono (by simp)) hz
theorem DAt.logs (h : DAt G w b d v g o lg k c m mb s x) (q : KL G w w') (hl : IsLog G w' lg) : DAt G w' b d v g o lg k c m mb s x := by
  have hm : IsMem w' m mb x.m := by obtain ⟨wr, a, b, e⟩ := h.mem; exact ⟨wr, q.has a (by decide), q.has b (by decide), e⟩
  refine ⟨q.has h.top (by decide), ⟨q.has h.dog.has (by decide), h.dog.low, h.dog.le, h.dog.top⟩, ?_, hl, q.own h.own, q.has h.cel (by decide), hm, h.gb, h.gd, h.gv, h.gg, h.go, h.gk, h.gc, h.nm, h.nmb⟩
  obtain ⟨S, h1, h2⟩ := q
  refine h.val.kept3 h2 (fun i hi hl T cs hh => ?_)
  have := (h1 i hi hl).2 T cs hh
  refine ⟨?_, ?_, ?_, ?_⟩ <;> (rintro rfl; exact absurd this (by decide))
theorem DAt.tops (h : DAt G w b d v g o lg k c m mb s x) (q : Kept [b] w w') (ht : Has w' b 142 (dcells m c d v lg s y)) (ep : y.p = x.p) (es : y.since = x.since) (ev : y.v = x.v) (el : y.value = x.value) (ec : y.c = x.c) (em : y.m = x.m) : DAt G w' b d v g o lg k c m mb s y := by
  obtain ⟨⟨c4, m1⟩, ⟨c5, m2⟩⟩ := memH h.mem
  refine ⟨ht, ?_, ?_, Kx.IsLog.kept2 h.log q (fun i hi hl => .inr ?_), ?_, ?_, ?_, h.gb, h.gd, h.gv, h.gg, h.go, h.gk, h.gc, h.nm, h.nmb⟩
  · rw [ep, es]; exact h.dog.kept q (by simpa using Ow.Has.ne h.dog.has h.top (by decide))
  · rw [ev]; exact h.val.kept2 q (fun i hi hl => by simp at hi; subst hi; exact ⟨_, _, h.top, by decide, by decide, by decide, by decide⟩)
  · simp at hi; subst hi; exact ⟨_, _, h.top, by decide⟩
  · rw [el]; exact h.own.kept q (by simpa using ValveC.Own.ne h.own h.top (by decide))
  · rw [ec]; exact q.has h.cel (by simpa using Ow.Has.ne h.cel h.top (by decide))
  · rw [em]; exact h.mem.kept q (by simpa using Ow.Has.ne m1 h.top (by decide)) (by simpa using Ow.Has.ne m2 h.top (by decide))
theorem DAt.frame {S : List Nat} (h : DAt G w b d v g o lg k c m mb s x) (q : Kept S w w') (hS : ∀ i, i ∈ S → i < w.heap.size → ¬ G i) (hm : m ∉ S) (hmb : mb ∉ S) : DAt G w' b d v g o lg k c m mb s x :=
  ⟨q.has h.top (fun hi => hS _ hi h.top.lt h.gb), h.dog.kept q (fun hi => hS _ hi h.dog.has.lt h.gd), h.val.frame q h.gv h.gg h.go hS, h.log.kept q hS, h.own.kept q (fun hi => hS _ hi h.own.lt h.gk), q.has h.cel (fun hi => hS _ hi (Has.lt h.cel) h.gc), h.mem.kept q hm hmb, h.gb, h.gd, h.gv, h.gg, h.go, h.gk, h.gc, h.nm, h.nmb⟩
theorem DAt.mono {G' : Nat → Prop} (h : DAt G w b d v g o lg k c m mb s x) (hG : ∀ i, i < w.heap.size → G i → G' i) (hm : ¬ G' m) (hmb : ¬ G' mb) : DAt G' w b d v g o lg k c m mb s x :=
  ⟨h.top, h.dog, h.val.mono hG, h.log.mono hG, h.own, h.cel, h.mem, hG _ h.top.lt h.gb, hG _ h.dog.has.lt h.gd, hG _ h.val.lt.1 h.gv, hG _ h.val.lt.2.1 h.gg, hG _ h.val.lt.2.2 h.go, hG _ h.own.lt h.gk, hG _ (Has.lt h.cel) h.gc, hm, hmb⟩
theorem DAt.bare {R : Nat} {cs : List Value} (h : DAt G w b d v g o lg k c m mb s x) (hR : Has w R 63 cs) : DAt (fun i => G i ∧ i ≠ R) w b d v g o lg k c m mb s x := by
  obtain ⟨⟨c1, h1⟩, ⟨c2, h2⟩, ⟨c3, h3⟩⟩ := hasV h.val
  refine ⟨h.top, h.dog, ?_, (Kx.IsLog.typed h.log).mono (fun i _ hi => ⟨hi.1, fun e => ?_⟩), h.own, h.cel, h.mem, ⟨h.gb, Ow.Has.ne h.top hR (by decide)⟩, ⟨h.gd, Ow.Has.ne h.dog.has hR (by decide)⟩, ⟨h.gv, Ow.Has.ne h1 hR (by decide)⟩, ⟨h.gg, Ow.Has.ne h2 hR (by decide)⟩, ⟨h.go, Ow.Has.ne h3 hR (by decide)⟩, ⟨h.gk, ValveC.Own.ne h.own hR (by decide)⟩, ⟨h.gc, Ow.Has.ne h.cel hR (by decide)⟩, fun e => h.nm e.1, fun e => h.nmb e.1⟩
  · obtain ⟨s', t, q1, q2, q3⟩ := h.val
    refine ⟨s', t, q1, q2, ?_⟩
    revert q3
    cases x.v.value with
    | none => exact id
    | some l =>
      rintro ⟨h8, k', ho, hg⟩
      exact ⟨h8, k', ho, hg, ValveC.Own.ne ho hR (by decide)⟩
  · subst e; exact absurd (hi.2 _ _ hR) (by decide)
theorem DAt.mems {z : M} {q : C} (h : DAt G w b d v g o lg k c m mb s x) (q1 : Kept [c, m, mb] w w') (hm : IsMem w' m mb z) (hc : IsCell w' c m q) (eq : q.max = x.c.max) : DAt G w' b d v g o lg k c m mb s { x with m := z, c := q } := by
  obtain ⟨⟨c4, m1⟩, ⟨c5, m2⟩⟩ := memH h.mem
  have hn : ∀ i, i < w.heap.size → G i → i ≠ c → i ∉ [c, m, mb] := fun i _ hi hc => by
    simp; exact ⟨hc, fun e => h.nm (e ▸ hi), fun e => h.nmb (e ▸ hi)⟩
  have ht : Has w' b 142 (dcells m c d v lg s { x with m := z, c := q }) := by
    have := q1.has h.top (hn _ h.top.lt h.gb (Ow.Has.ne h.top h.cel (by decide)))
    unfold dcells at this ⊢; simp only [eq]; exact this
  obtain ⟨⟨c1, h1⟩, ⟨c2, h2⟩, ⟨c3, h3⟩⟩ := hasV h.val
  refine ⟨ht, h.dog.kept q1 (hn _ h.dog.has.lt h.gd (Ow.Has.ne h.dog.has h.cel (by decide))), ?_, Kx.IsLog.kept2 h.log q1 (fun i hi hl => .inr ?_), h.own.kept q1 (hn _ h.own.lt h.gk (ValveC.Own.ne h.own h.cel (by decide))), hc, hm, h.gb, h.gd, h.gv, h.gg, h.go, h.gk, h.gc, h.nm, h.nmb⟩
  · obtain ⟨s', t, a1, a2, a3⟩ := h.val
    refine ⟨s', t, q1.has a1 (hn _ a1.lt h.gv (Ow.Has.ne a1 h.cel (by decide))), a2.kept q1 (hn _ a2.1.lt h.gg (Ow.Has.ne a2.1 h.cel (by decide))) (hn _ a2.2.lt h.go (Ow.Has.ne a2.2 h.cel (by decide))), ?_⟩
    revert a3
    cases x.v.value with
    | none => exact id
    | some l =>
      rintro ⟨h8, k', ho, hg⟩
      exact ⟨h8, k', ho.kept q1 (hn _ ho.lt hg (ValveC.Own.ne ho h.cel (by decide))), hg⟩
  · simp at hi
    rcases hi with rfl | rfl | rfl
    · exact ⟨_, _, h.cel, by decide⟩
    · exact ⟨_, _, m1, by decide⟩
    · exact ⟨_, _, m2, by decide⟩
theorem DAt.set (h : DAt G w b d v g o lg k c m mb s x) (i : Nat) (u : Value) (hu : (dcells m c d v lg s x).set i u = dcells m c d v lg s y) (ep : y.p = x.p) (es : y.since = x.since) (ev : y.v = x.v) (el : y.value = x.value) (ec : y.c = x.c) (em : y.m = x.m) : DAt G (w.setCell ⟨b, i, none⟩ u) b d v g o lg k c m mb s y :=
  h.tops ((Kept.refl [b] w).set ⟨b, i, none⟩ u (by simp)) (hu ▸ h.top.set i u) ep es ev el ec em
theorem DAt.newrow {k' : Nat} {s' : Value} {l : List Int} {hb : Bool} (h : DAt G w b d v g o lg k c m mb s x) (ho : Own w k' s' l) (hk : G k') : DAt G ((w.setCell ⟨b, 16, none⟩ s').setCell ⟨b, 17, none⟩ (.bool hb)) b d v g o lg k' c m mb s' { x with value := l, hold := hb } := by
  have q := ((Kept.refl [b] w).set ⟨b, 16, none⟩ s' (by simp)).set ⟨b, 17, none⟩ (.bool hb) (by simp)
  obtain ⟨⟨c4, m1⟩, ⟨c5, m2⟩⟩ := memH h.mem
  refine ⟨(h.top.set 16 s').set 17 (.bool hb), h.dog.kept q (by simpa using Ow.Has.ne h.dog.has h.top (by decide)), h.val.kept2 q (fun i hi hl => by simp at hi; subst hi; exact ⟨_, _, h.top, by decide, by decide, by decide, by decide⟩), Kx.IsLog.kept2 h.log q (fun i hi hl => .inr (by simp at hi; subst hi; exact ⟨_, _, h.top, by decide⟩)), ho.kept q (by simpa using ValveC.Own.ne ho h.top (by decide)), q.has h.cel (by simpa using Ow.Has.ne h.cel h.top (by decide)), h.mem.kept q (by simpa using Ow.Has.ne m1 h.top (by decide)) (by simpa using Ow.Has.ne m2 h.top (by decide)), h.gb, h.gd, h.gv, h.gg, h.go, hk, h.gc, h.nm, h.nmb⟩
def devOf (G : Nat → Prop) (w : World) (b m mb : Nat) (x : D) : Prop := ∃ d v g o lg k c s, DAt G w b d v g o lg k c m mb s x
theorem DAt.dev (h : DAt G w b d v g o lg k c m mb s x) : devOf G w b m mb x := ⟨d, v, g, o, lg, k, c, s, h⟩
def GM (G : Nat → Prop) (m mb i : Nat) : Prop := G i ∨ i = m ∨ i = mb
theorem kgM (h : KG G w w') : KG (GM G m mb) w w' := h.shed (fun i _ hi => .inl hi)
end DevC
namespace DevC
open Go Go.RowKit Hp Sl Ow DiagC ValveC DogC Kx TM MemC CellC HostC
variable {G : Nat → Prop} {w w' w'' : World} {b d v g o lg k c m mb : Nat} {s : Value} {x y : D}
set_option maxRecDepth 100000 in
theorem trip_call (cc : Nat) (hc : 1 ≤ cc) (hc2 : cc < 1000) (hG : Opn G w) (h : DAt G w b d v g o lg k c m mb s x) :
    Calls Tryz.prog 105 #[.pointer (some ⟨b, 0, none⟩), .int .i64 (cc : Nat)] w fun e w' => e = .returned (.tuple #[]) ∧ KG G w w' ∧ DAt G w' b d v g o lg k c m mb s (x.trip cc) := by
  have c9 := h.top.cell 9 (v := .pointer (some ⟨v, 0, none⟩)) rfl
  have HH := hid h
  have HC := hid hc
  have HC2 := hid hc2
  have HG := hid hG
  clear h hc hc2 hG
  go_enter Tryz.func105, Tryz.ntmps105
  go_wp2_with fail
  refine (ValveC.trip_call v g o x.v cc _ HH.out.val).mono ?_
  rintro e w1 ⟨rfl, k1, h1⟩
  have K1 := hid (KG.of k1 (G := G) (by have := HH.out.gv; have := HH.out.gg; have := HH.out.go; intro i hi; simp at hi; rcases hi with rfl | rfl | rfl <;> assumption))
  have H1 := hid (HH.out.vals k1 h1)
  clear k1 h1
  have HG1 := hid (HG.out.kg K1.out)
  have e1 : decide ((cc : Int) ≠ 0) = true := by have := HC.out; simp; omega
  rw [e1, Bool.true_and]
  have c10 := H1.out.top.cell 10 (v := .pointer (some ⟨lg, 0, none⟩)) rfl
  have c12 := H1.out.top.cell 12 (v := .int .u32 x.ses) rfl
  have c13 := H1.out.top.cell 13 (v := .int .u32 x.num) rfl
  clear e1
  by_cases hl : x.v.latched = 0
  · rw [decide_eq_true hl]
    clear hl
    go_wp2_with fail
    have c10' : w1.drew.cell? ⟨b, 10, none⟩ = some (.pointer (some ⟨lg, 0, none⟩)) := c10
    have c12' : w1.drew.cell? ⟨b, 12, none⟩ = some (.int .u32 x.ses) := c12
    have c13' : w1.drew.cell? ⟨b, 13, none⟩ = some (.int .u32 x.num) := c13
    (refine wp_region_still_tail 15 (by kernel_rfl) (by kernel_rfl) ?_; simp only [List.take_succ_cons, List.take_zero, List.drop_succ_cons, List.drop_zero]; (repeat still_step); refine wpStill_nil ?_)
    change wpList _ _ _ _ _ w1.drew
    go_wp2_with fail
    have H2 := hid (H1.out.nil ((Kept.refl [] w1).drew))
    refine (noted lg cc HC.out HC2.out x.ses x.num w1.drew HG1.out H2.out.log).mono ?_
    rintro e w2 ⟨⟨r, rfl⟩, k2, h2⟩
    go_wp2_with fail
    go_end0
    exact ⟨rfl, K1.out.drew.trans (k2.kg HG1.out), H2.out.logs k2 h2⟩
  · rw [decide_eq_false hl]
    clear hl
    go_wp2_with fail
    go_end0
    exact ⟨rfl, K1.out, H1.out⟩
set_option maxRecDepth 100000 in
theorem alive_call (hG : Opn G w) (h : DAt G w b d v g o lg k c m mb s x) :
    Calls Tryz.prog 190 #[.pointer (some ⟨b, 0, none⟩)] w fun e w' => e = .returned (.tuple #[]) ∧ KG G w w' ∧ DAt G w' b d v g o lg k c m mb s x.alive := by
  have HH := hid h
  have c15 := h.top.cell 15 (v := .int .i64 x.odd) rfl
  have z15 := h.top.free 15
  have c8 := h.top.cell 8 (v := .pointer (some ⟨d, 0, none⟩)) rfl
  clear h hG
  go_enter Tryz.func190, Tryz.ntmps190
  go_wp2_with fail
  have q1 := HH.out.set (y := { x with odd := 0 }) 15 (.int .i64 0) rfl rfl rfl rfl rfl rfl rfl
  have K1 := hid ((KG.refl (G := G) (w := w)).set (i := 15) (v := .int .i64 0) HH.out.gb)
  have Q1 := hid q1
  generalize w.setCell ⟨b, 15, none⟩ (.int .i64 0) = w1 at K1 Q1 ⊢
  clear q1 c15 z15 c8
  refine (feed_call d _ _ _ Q1.out.dog).mono ?_
  rintro e w2 ⟨rfl, k2, h2⟩
  have Q2 := hid (Q1.out.dogs k2 h2)
  have K2 := hid (K1.out.trans (.one k2 HH.out.gd))
  have c9 := Q2.out.top.cell 9 (v := .pointer (some ⟨v, 0, none⟩)) rfl
  clear k2 h2
  go_wp2_with fail
  refine (ValveC.fresh_call v g o x.v _ Q2.out.val).mono ?_
  rintro e w3 ⟨rfl, k3, h3⟩
  go_wp2_with fail
  go_end0
  exact ⟨rfl, K2.out.trans (.one k3 HH.out.gv), Q2.out.one k3 h3⟩
set_option maxRecDepth 100000 in
theorem leave_call (st : Int) (h : DAt G w b d v g o lg k c m mb s x) :
    Calls Tryz.prog 195 #[.pointer (some ⟨b, 0, none⟩), .int .i64 st] w fun e w' => e = .returned (.tuple #[]) ∧ KG G w w' ∧ DAt G w' b d v g o lg k c m mb s (x.leave st) := by
  have HH := hid h
  have c9 := h.top.cell 9 (v := .pointer (some ⟨v, 0, none⟩)) rfl
  clear h
  go_enter Tryz.func195, Tryz.ntmps195
  go_wp2_with fail
  refine (ValveC.run_call v g o x.v false _ HH.out.val).mono ?_
  rintro e w1 ⟨rfl, k1, h1⟩
  have Q1 := hid (HH.out.one k1 h1)
  have K1 := hid (KG.one k1 HH.out.gv)
  have c11 := Q1.out.top.cell 11 (v := .int .i64 x.state) rfl
  have z11 := Q1.out.top.free 11
  have c12 := Q1.out.top.cell 12 (v := .int .u32 x.ses) rfl
  have z12 := Q1.out.top.free 12
  have c13 := Q1.out.top.cell 13 (v := .int .u32 x.num) rfl
  have z13 := Q1.out.top.free 13
  have c14 := Q1.out.top.cell 14 (v := .int .u32 x.sent) rfl
  have z14 := Q1.out.top.free 14
  have c15 := Q1.out.top.cell 15 (v := .int .i64 x.odd) rfl
  have z15 := Q1.out.top.free 15
  clear k1 h1
  go_wp2_with fail
  go_end0
  have q1 := ((((Q1.out.set (y := { x with v := x.v.run false, state := st }) 11 (.int .i64 st) rfl rfl rfl rfl rfl rfl rfl).set (y := { x with v := x.v.run false, state := st, ses := 0 }) 12 (.int .u32 0) rfl rfl rfl rfl rfl rfl rfl).set (y := { x with v := x.v.run false, state := st, ses := 0, num := 0 }) 13 (.int .u32 0) rfl rfl rfl rfl rfl rfl rfl).set (y := { x with v := x.v.run false, state := st, ses := 0, num := 0, sent := 0 }) 14 (.int .u32 0) rfl rfl rfl rfl rfl rfl rfl).set (y := x.leave st) 15 (.int .i64 0) rfl rfl rfl rfl rfl rfl rfl
  exact ⟨rfl, ((((K1.out.set HH.out.gb).set HH.out.gb).set HH.out.gb).set HH.out.gb).set HH.out.gb, q1⟩
set_option maxRecDepth 100000 in
set_option maxHeartbeats 6400000 in
theorem flags_call (hn : 1 ≤ x.v.n) (hn8 : x.v.n ≤ 8) (h : DAt G w b d v g o lg k c m mb s x) :
    Calls Tryz.prog 196 #[.pointer (some ⟨b, 0, none⟩)] w fun e w' => e = .returned (.int .i64 (flagsOf x.v x.hold)) ∧ Kept [] w w' := by
  have HH := hid h
  have HN := hid hn
  have HN8 := hid hn8
  have c9 := h.top.cell 9 (v := .pointer (some ⟨v, 0, none⟩)) rfl
  have c17 := h.top.cell 17 (v := .bool x.hold) rfl
  clear h hn hn8
  cases eo : x.v.on <;> cases er : x.v.request <;> cases el : (x.v.latched != 0) <;> cases eh : x.hold
  all_goals (
    rw [eh] at c17
    have EO := hid eo
    have ER := hid er
    have EL := hid (show (x.v.latched = 0) = ((x.v.latched != 0) = false) by simp)
    have EM := hid el
    have EH := hid eh
    clear eo er eh
    go_enter Tryz.func196, Tryz.ntmps196
    go_wp2_with fail
    refine (output_call v g o x.v _ HH.out.val HN.out HN8.out).mono ?_
    rintro e w1 ⟨s1, rfl, k1, _⟩
    rw [EO.out]
    have H1 := hid (HH.out.nil k1)
    have c9' := H1.out.top.cell 9 (v := .pointer (some ⟨v, 0, none⟩)) rfl
    have c17' := H1.out.top.cell 17 (v := .bool x.hold) rfl
    rw [EH.out] at c17'
    have K1 := hid k1
    clear k1
    go_wp2_with fail
    refine (request_call v g o x.v _ H1.out.val).mono ?_
    rintro e w2 ⟨rfl, rfl⟩
    rw [ER.out]
    go_wp2_with fail
    refine (latched_call v g o x.v _ H1.out.val).mono ?_
    rintro e w2 ⟨rfl, rfl⟩
    go_wp2_with fail
    go_ret
    exact ⟨by simp only [flagsOf, EO.out, ER.out, EL.out, EM.out, EH.out]; rfl, K1.out⟩)
end DevC
namespace DevC
open Go Go.RowKit Gf SlC CrcW SlM Hp Sl Ow DiagC ValveC DogC Kx TM MemC CellC HostC EncW ParW UnW UEnc NumW UDecW
structure DOk (x : D) : Prop where
  p : POk x.p
  st : x.state = 1 ∨ x.state = 2 ∨ x.state = 3 ∨ x.state = 4 ∨ x.state = 5 ∨ x.state = 6
  ses : 0 ≤ x.ses ∧ x.ses < 4294967296
  live : x.state = 2 ∨ x.state = 3 ∨ x.state = 4 → 0 < x.ses
  num : 0 ≤ x.num ∧ x.num ≤ x.p.count
  sent : 0 ≤ x.sent ∧ x.sent ≤ x.num
  odd : 0 ≤ x.odd ∧ x.odd < 4
  vn : x.v.n = x.p.out
  len : (x.value.length : Int) = x.p.inn
  byt : By x.value
  cmax : 0 < x.c.max ∧ x.c.max < 4294967296
  cval : 0 ≤ x.c.value
variable {G : Nat → Prop} {w w' w'' : World} {b d v g o lg k c m mb : Nat} {s : Value} {x y : D}
set_option maxRecDepth 100000 in
theorem stuck_call (hst : x.state = 1 ∨ x.state = 2 ∨ x.state = 3 ∨ x.state = 4 ∨ x.state = 5 ∨ x.state = 6) (hm : 0 ≤ x.odd) (hm2 : x.odd < 4) (hG : Opn G w) (h : DAt G w b d v g o lg k c m mb s x) :
    Calls Tryz.prog 186 #[.pointer (some ⟨b, 0, none⟩)] w fun e w' => e = .returned (.bool x.stuck.2) ∧ KG G w w' ∧ DAt G w' b d v g o lg k c m mb s x.stuck.1 := by
  have HH := hid h
  have HG := hid hG
  have c11 := h.top.cell 11 (v := .int .i64 x.state) rfl
  have c15 := h.top.cell 15 (v := .int .i64 x.odd) rfl
  have z15 := h.top.free 15
  have ew : wrap64 (x.odd + 1) = x.odd + 1 := wrap64_id (by omega) (by omega)
  have q1 := HH.out.set (y := { x with odd := x.odd + 1 }) 15 (.int .i64 (x.odd + 1)) rfl rfl rfl rfl rfl rfl rfl
  have K1 := hid ((KG.refl (G := G) (w := w)).set (i := 15) (v := .int .i64 (x.odd + 1)) HH.out.gb)
  have Q1 := hid q1
  have HG1 := hid (HG.out.kg K1.out)
  clear h hG q1
  by_cases hf : x.half
  case neg =>
    have ex : x.stuck = (x, false) := by unfold D.stuck; rw [if_neg hf]
    rw [ex]
    have hs : x.state = 1 ∨ x.state = 5 ∨ x.state = 6 := by unfold D.half at hf; omega
    clear ex hf hst hm hm2
    rcases hs with hs | hs | hs
    all_goals (
      rw [hs] at c11
      clear hs
      go_enter Tryz.func186, Tryz.ntmps186
      go_wp2_with fail
      go_ret
      exact ⟨rfl, .refl, HH.out⟩)
  have hs : x.state = 2 ∨ x.state = 3 ∨ x.state = 4 := hf
  by_cases h3 : x.odd + 1 < 4
  · have ex : x.stuck = ({ x with odd := x.odd + 1 }, false) := by unfold D.stuck; rw [if_pos hf, if_pos h3]
    rw [ex]
    have e2 : decide (x.odd + 1 < 4) = true := by simp; omega
    clear ex hf hst hm hm2 h3
    rcases hs with hs | hs | hs
    all_goals (
      rw [hs] at c11
      clear hs
      go_enter Tryz.func186, Tryz.ntmps186
      go_wp2_with fail
      go_ret
      exact ⟨rfl, K1.out, Q1.out⟩)
  have e2 : decide (x.odd + 1 < 4) = false := by simp; omega
  rcases hs with hs | hs | hs
  case inr.inr =>
    have ex : x.stuck = ((({ x with odd := x.odd + 1 } : D).trip 131).leave 1, true) := by unfold D.stuck; rw [if_pos hf, if_neg h3, if_pos hs]
    rw [ex]
    rw [hs] at c11
    have HS := hid hs
    clear ex hf hst hm hm2 h3 hs
    go_enter Tryz.func186, Tryz.ntmps186
    go_wp2_with fail
    have c11' := Q1.out.top.cell 11 (v := .int .i64 x.state) rfl
    rw [HS.out] at c11'
    go_wp2_with fail
    refine (trip_call 131 (by decide) (by decide) HG1.out Q1.out).mono ?_
    rintro e w2 ⟨rfl, k2, h2⟩
    go_wp2_with fail
    refine (leave_call 1 h2).mono ?_
    rintro e w3 ⟨rfl, k3, h3⟩
    go_wp2_with fail
    go_ret
    exact ⟨rfl, (K1.out.trans k2).trans k3, h3⟩
  all_goals (
    have ex : x.stuck = (({ x with odd := x.odd + 1 } : D).leave 1, true) := by unfold D.stuck; rw [if_pos hf, if_neg h3, if_neg (by omega)]
    rw [ex]
    rw [hs] at c11
    have HS := hid hs
    clear ex hf hst hm hm2 h3 hs
    go_enter Tryz.func186, Tryz.ntmps186
    go_wp2_with fail
    have c11' := Q1.out.top.cell 11 (v := .int .i64 x.state) rfl
    rw [HS.out] at c11'
    go_wp2_with fail
    refine (leave_call 1 Q1.out).mono ?_
    rintro e w3 ⟨rfl, k3, h3⟩
    go_wp2_with fail
    go_ret
    exact ⟨rfl, K1.out.trans k3, h3⟩)
set_option maxRecDepth 100000 in
set_option maxHeartbeats 3200000 in
theorem reply_call (kd num : Int) (data : List Int) (vd : Value) (hk : kd ≠ 20) (hl : Law (x.reply kd num data)) (h : DAt G w b d v g o lg k c m mb s x) (hd : Bytes w vd data) (hb : By data) :
    Calls Tryz.prog 188 #[.pointer (some ⟨b, 0, none⟩), .int .i64 kd, .int .u32 num, vd] w fun e w' => ∃ f, e = .returned f ∧ Kept [] w w' ∧ Made w w' f (frame (x.reply kd num data)) := by
  obtain ⟨dp, dc, rfl, hdc⟩ := sl_shape hd
  have er : x.reply kd num data = ⟨kd, x.p.code, x.ses, num, 0, data⟩ := by unfold D.reply; rw [if_neg hk]
  rw [er] at hl ⊢
  have c0 := h.top.cell 0 (v := .int .u32 x.p.code) rfl
  have c12 := h.top.cell 12 (v := .int .u32 x.ses) rfl
  have HH := hid h
  have HL := hid hl
  have HD := hid hd
  have HB := hid hb
  have e1 : (kd == 20) = false := by simp [hk]
  have E1 := hid e1
  clear h hl hd hb hk er e1
  go_enter Tryz.func188, Tryz.ntmps188
  go_wp2_with fail
  have dd : w.drew.cell? ⟨b, 0, none⟩ = some (.int .u32 x.p.code) ∧ w.drew.cell? ⟨b, 12, none⟩ = some (.int .u32 x.ses) := ⟨c0, c12⟩
  go_region_held3 (fun w' => w'.cell? ⟨b, 0, none⟩ = some (.int .u32 x.p.code) ∧ w'.cell? ⟨b, 12, none⟩ = some (.int .u32 x.ses)) (first | with_reducible assumption | go_keep) (fail)
  have hU := hid ((Has.new w 63 [.int .i64 kd, .int .u32 x.p.code, .int .u32 x.ses, .int .u32 num, .int .i64 0, .slice dp data.length dc]).drew)
  have K2 := hid (((Kept.refl [] w).alloc (.cells #[.int .i64 kd, .int .u32 x.p.code, .int .u32 x.ses, .int .u32 num, .int .i64 0, .slice dp data.length dc] 63)).drew)
  clear dd c0 c12
  change Exit.then _ _ Exit.normal _ (w.alloc (.cells #[.int .i64 kd, .int .u32 x.p.code, .int .u32 x.ses, .int .u32 num, .int .i64 0, .slice dp data.length dc] 63)).drew
  have hU : Hid (Has (w.alloc (.cells #[.int .i64 kd, .int .u32 x.p.code, .int .u32 x.ses, .int .u32 num, .int .i64 0, .slice dp data.length dc] 63)).drew w.heap.size 63 [.int .i64 kd, .int .u32 x.p.code, .int .u32 x.ses, .int .u32 num, .int .i64 0, .slice dp data.length dc]) := hU
  have K2 : Hid (Kept [] w (w.alloc (.cells #[.int .i64 kd, .int .u32 x.p.code, .int .u32 x.ses, .int .u32 num, .int .i64 0, .slice dp data.length dc] 63)).drew) := K2
  generalize (w.alloc (.cells #[.int .i64 kd, .int .u32 x.p.code, .int .u32 x.ses, .int .u32 num, .int .i64 0, .slice dp data.length dc] 63)).drew = w2 at hU K2 ⊢
  have RR := hid (Nat.le_refl w.heap.size)
  generalize hR : w.heap.size = R at hU ⊢
  clear hR
  have D2 := hid (HD.out.kept K2.out (by simp))
  have y0 := hU.out.cell 0 rfl
  have y1 := hU.out.cell 1 rfl
  have y2 := hU.out.cell 2 rfl
  have y3 := hU.out.cell 3 rfl
  have y4 := hU.out.cell 4 rfl
  have y5 := hU.out.cell 5 rfl
  have e1 := E1.out
  go_wp2_with fail
  refine (UEnc.encode_call ⟨kd, x.p.code, x.ses, num, 0, data⟩ HL.out (.slice dp data.length dc) _ D2.out HB.out).mono ?_
  rintro e w5 ⟨v5, rfl, k5, m5⟩
  go_wp2_with fail
  go_ret
  exact ⟨v5, rfl, K2.out.trans k5, m5.1, fun i hi => Nat.le_trans K2.out.size (m5.2 i hi)⟩
end DevC
namespace DevC
open Go Go.RowKit Gf SlC CrcW SlM Hp Sl Ow DiagC ValveC DogC Kx TM MemC CellC HostC EncW ParW UnW UEnc NumW UDecW
variable {G : Nat → Prop} {w w' w'' : World} {b d v g o lg k c m mb : Nat} {s : Value} {x y : D}
set_option maxRecDepth 100000 in
theorem tick_down (hst : x.state = 6) (h : DAt G w b d v g o lg k c m mb s x) (n : Int) :
    Calls Tryz.prog 76 #[.pointer (some ⟨b, 0, none⟩), .int .i64 n] w fun e w' => e = .returned (.int .i64 70) ∧ KG G w w' ∧ DAt G w' b d v g o lg k c m mb s x := by
  have HH := hid h
  have c11 := h.top.cell 11 (v := .int .i64 x.state) rfl
  rw [hst] at c11
  clear h hst
  go_enter Tryz.func76, Tryz.ntmps76
  go_wp2_with fail
  go_ret
  exact ⟨rfl, .refl, HH.out⟩
set_option maxRecDepth 100000 in
theorem ack_down (hst : x.state = 6) (h : DAt G w b d v g o lg k c m mb s x) :
    Calls Tryz.prog 78 #[.pointer (some ⟨b, 0, none⟩)] w fun e w' => e = .returned (.int .i64 70) ∧ KG G w w' ∧ DAt G w' b d v g o lg k c m mb s x := by
  have HH := hid h
  have c11 := h.top.cell 11 (v := .int .i64 x.state) rfl
  rw [hst] at c11
  clear h hst
  go_enter Tryz.func78, Tryz.ntmps78
  go_wp2_with fail
  go_ret
  exact ⟨rfl, .refl, HH.out⟩
set_option maxRecDepth 100000 in
theorem write_down (hst : x.state = 6) (h : DAt G w b d v g o lg k c m mb s x) (vd : Value) (hb : Bool) :
    Calls Tryz.prog 65 #[.pointer (some ⟨b, 0, none⟩), vd, .bool hb] w fun e w' => e = .returned (.int .i64 70) ∧ KG G w w' ∧ DAt G w' b d v g o lg k c m mb s x := by
  have HH := hid h
  have c11 := h.top.cell 11 (v := .int .i64 x.state) rfl
  rw [hst] at c11
  clear h hst
  go_enter Tryz.func65, Tryz.ntmps65
  go_wp2_with fail
  go_ret
  exact ⟨rfl, .refl, HH.out⟩
set_option maxRecDepth 100000 in
theorem receive_down (hst : x.state = 6) (h : DAt G w b d v g o lg k c m mb s x) (vb : Value) :
    Calls Tryz.prog 70 #[.pointer (some ⟨b, 0, none⟩), vb] w fun e w' => e = .returned (.tuple #[.slice none 0 0, .int .i64 70]) ∧ KG G w w' ∧ DAt G w' b d v g o lg k c m mb s x := by
  have HH := hid h
  have c11 := h.top.cell 11 (v := .int .i64 x.state) rfl
  rw [hst] at c11
  clear h hst
  go_enter Tryz.func70, Tryz.ntmps70
  go_wp2_with fail
  go_ret2
  exact ⟨rfl, .refl, HH.out⟩
set_option maxRecDepth 100000 in
theorem tick_call (hst : x.state ≠ 6) (hG : Opn G w) (h : DAt G w b d v g o lg k c m mb s x) (n : Int) (hn : 0 ≤ n) (hn2 : n ≤ 1048576) :
    Calls Tryz.prog 76 #[.pointer (some ⟨b, 0, none⟩), .int .i64 n] w fun e w' => e = .returned (.int .i64 (x.tick n).2) ∧ KG G w w' ∧ DAt G w' b d v g o lg k c m mb s (x.tick n).1 := by
  have HH := hid h
  have HG := hid hG
  have TC := hid (ticks_call d _ _ n w h.dog hn hn2)
  have c8 := h.top.cell 8 (v := .pointer (some ⟨d, 0, none⟩)) rfl
  have c11 := h.top.cell 11 (v := .int .i64 x.state) rfl
  have e6 : (x.state == 6) = false := by simp [hst]
  clear h hG hn hn2
  by_cases hb : barks x.p.watch x.since n = true
  · have e : x.tick n = (({ x with since := ticked x.p.watch x.since n } : D).trip 100, 0) := by unfold D.tick; rw [if_neg hst, if_pos hb]
    rw [e]
    rw [hb] at TC
    clear e hb hst
    go_enter Tryz.func76, Tryz.ntmps76
    go_wp2_with fail
    refine TC.out.mono ?_
    rintro e w1 ⟨rfl, k1, h1⟩
    have H1 := hid (HH.out.dogs k1 h1)
    have K1 := hid (KG.one k1 HH.out.gd)
    clear k1 h1
    go_wp2_with fail
    refine (trip_call 100 (by decide) (by decide) (HG.out.kg K1.out) H1.out).mono ?_
    rintro e w2 ⟨rfl, k2, h2⟩
    have H2 := hid h2
    have K2 := hid (K1.out.trans k2)
    clear k2 h2
    go_wp2_with fail
    go_ret
    exact ⟨rfl, K2.out, H2.out⟩
  · have e : x.tick n = ({ x with since := ticked x.p.watch x.since n }, 0) := by unfold D.tick; rw [if_neg hst, if_neg hb]
    rw [e]
    rw [Bool.not_eq_true] at hb
    rw [hb] at TC
    clear e hb hst
    go_enter Tryz.func76, Tryz.ntmps76
    go_wp2_with fail
    refine TC.out.mono ?_
    rintro e w1 ⟨rfl, k1, h1⟩
    have H1 := hid (HH.out.dogs k1 h1)
    have K1 := hid (KG.one k1 HH.out.gd)
    clear k1 h1
    go_wp2_with fail
    go_ret
    exact ⟨rfl, K1.out, H1.out⟩
set_option maxRecDepth 100000 in
theorem ack_call (hst : x.state ≠ 6) (hG : Opn G w) (h : DAt G w b d v g o lg k c m mb s x) :
    Calls Tryz.prog 78 #[.pointer (some ⟨b, 0, none⟩)] w fun e w' => e = .returned (.int .i64 x.ack.2) ∧ KG G w w' ∧ devOf G w' b m mb x.ack.1 := by
  have HH := hid h
  have HG := hid hG
  have AC := hid (ValveC.ack_call v g o x.v w h.val)
  have c9 := h.top.cell 9 (v := .pointer (some ⟨v, 0, none⟩)) rfl
  have c11 := h.top.cell 11 (v := .int .i64 x.state) rfl
  have e6 : (x.state == 6) = false := by simp [hst]
  have e : x.ack = ({ x with v := x.v.ack }, ackCode x.v.request) := by unfold D.ack; rw [if_neg hst]; rfl
  rw [e]
  have AC := hid (show Calls Tryz.prog 106 #[.pointer (some ⟨v, 0, none⟩)] w fun e w' => e = .returned (.int .i64 (ackCode x.v.request)) ∧ Kept [v, g, o] w w' ∧ Acked G w w' v g o x.v.ack from AC.out)
  clear h hG e hst
  go_enter Tryz.func78, Tryz.ntmps78
  go_wp2_with fail
  refine AC.out.mono ?_
  rintro e w1 ⟨rfl, k1, o', ho', h1⟩
  have K1 := hid (KG.of k1 (G := G) (by have := HH.out.gv; have := HH.out.gg; have := HH.out.go; intro i hi; simp at hi; rcases hi with rfl | rfl | rfl <;> assumption))
  have H1 := hid (HH.out.valo k1 h1 (by rcases ho' with rfl | h; exact HH.out.go; exact HG.out _ h))
  clear k1 h1 ho'
  go_wp2_with fail
  go_ret
  exact ⟨rfl, K1.out, H1.out.dev⟩
set_option maxRecDepth 100000 in
theorem write_call (hx : DOk x) (hst : x.state ≠ 6) (hG : Opn G w) (h : DAt G w b d v g o lg k c m mb s x) (vd : Value) (l : List Int) (hd : Bytes w vd l) (hl : l.length ≤ 140737488351232) (hb : Bool) :
    Calls Tryz.prog 65 #[.pointer (some ⟨b, 0, none⟩), vd, .bool hb] w fun e w' => e = .returned (.int .i64 (x.write l hb).2) ∧ KG G w w' ∧ devOf G w' b m mb (x.write l hb).1 := by
  obtain ⟨dp, dc, rfl, hdc⟩ := sl_shape hd
  have HH := hid h
  have HG := hid hG
  have HD := hid hd
  have CL := hid (clone_call _ l w hd hl)
  have c2 := h.top.cell 2 (v := .int .i64 x.p.inn) rfl
  have c11 := h.top.cell 11 (v := .int .i64 x.state) rfl
  have e6 : (x.state == 6) = false := by simp [hst]
  have hin := hx.p.inn
  by_cases h1 : (l.length : Int) = x.p.inn
  · have e : x.write l hb = ({ x with value := l, hold := hb }, 0) := by unfold D.write; rw [if_neg hst, if_neg (by simp [h1])]
    rw [e]
    have e1 : ((l.length : Int) != x.p.inn) = false := by simp [h1]
    have NE := hid (show l ≠ [] by intro e; rw [e] at h1; simp at h1; omega)
    clear e h1 hin h hG hd hl hx hst
    go_enter Tryz.func65, Tryz.ntmps65
    go_wp2_with fail
    refine CL.out.mono ?_
    rintro e w1 ⟨v1, rfl, k1, hcl⟩
    have hown : ∃ kk, w.heap.size ≤ kk ∧ Own w1 kk v1 l := by
      rcases hcl with ⟨e1, e2⟩ | ⟨_, kk, hk, ho⟩
      · rcases HD.out with ⟨_, e⟩ | ⟨_, _, e, _⟩
        · exact absurd e NE.out
        · rw [e] at e1; cases e1
      · exact ⟨kk, hk, ho⟩
    obtain ⟨kk, hkk, ho⟩ := hown
    obtain ⟨cap, cur, rfl, _⟩ := id ho
    have HO := hid ho
    have H1 := hid (HH.out.nil k1)
    have K1 := hid (KG.nil (G := G) k1)
    have GK := hid (HG.out kk hkk)
    have c16 := H1.out.top.cell 16 (v := s) rfl
    have z16 := H1.out.top.free 16
    have c17 := H1.out.top.cell 17 (v := .bool x.hold) rfl
    have z17 := H1.out.top.free 17
    clear hcl ho k1 hkk c2
    go_wp2_with fail
    go_ret
    exact ⟨rfl, (K1.out.set (i := 16) (v := .slice (some ⟨kk, 0, none⟩) l.length cap) HH.out.gb).set (i := 17) (v := .bool hb) HH.out.gb, (H1.out.newrow HO.out GK.out).dev⟩
  · have e : x.write l hb = (x, 45) := by unfold D.write; rw [if_neg hst, if_pos h1]
    rw [e]
    have e1 : ((l.length : Int) != x.p.inn) = true := by simp [h1]
    clear e h1 hin h hG hd hl hx hst
    go_enter Tryz.func65, Tryz.ntmps65
    go_wp2_with fail
    go_ret
    exact ⟨rfl, .refl, HH.out.dev⟩
end DevC
namespace DevC
open Go Go.RowKit Gf SlC CrcW SlM Hp Sl Ow DiagC ValveC DogC Kx TM MemC CellC HostC EncW ParW UnW UEnc NumW UDecW
variable {G : Nat → Prop} {w w' w'' : World} {b d v g o lg k c m mb : Nat} {s : Value} {x y : D}
set_option maxRecDepth 100000 in
set_option maxHeartbeats 6400000 in
theorem see_call (hn : 1 ≤ x.v.n) (hn8 : x.v.n ≤ 8) (h : DAt G w b d v g o lg k c m mb s x) :
    Calls Tryz.prog 44 #[.pointer (some ⟨b, 0, none⟩)] w fun e w' => ∃ s', e = .returned (eval' x.see s') ∧ Kept [] w w' ∧ Outs w w' s' x.v.out := by
  have HH := hid h
  have c9 := h.top.cell 9 (v := .pointer (some ⟨v, 0, none⟩)) rfl
  have hlt := h.top.lt
  have HN := hid hn
  have HN8 := hid hn8
  have K0 := hid ((Kept.refl [] w).alloc (.cells #[.int .i64 0, .int .u32 0, .int .u32 0, .int .u32 0, .int .i64 0, .int .i64 0, .bool false, .bool false, .slice none 0 0] 42))
  have E0 := hid (Has.new w 42 [.int .i64 0, .int .u32 0, .int .u32 0, .int .u32 0, .int .i64 0, .int .i64 0, .bool false, .bool false, .slice none 0 0])
  clear h hn hn8
  go_enter Tryz.func44, Tryz.ntmps44
  go_wp2_with fail
  have H0 := hid (HH.out.nil K0.out)
  clear hlt c9
  generalize w.alloc (.cells #[.int .i64 0, .int .u32 0, .int .u32 0, .int .u32 0, .int .i64 0, .int .i64 0, .bool false, .bool false, .slice none 0 0] 42) = w0 at K0 E0 H0 ⊢
  obtain ⟨R, hR⟩ : ∃ R, R = w.heap.size := ⟨_, rfl⟩
  rw [← hR] at E0 ⊢
  have RR := hid (Nat.le_of_eq hR.symm)
  clear hR
  refine (output_call v g o x.v w0 H0.out.val HN.out HN8.out).mono ?_
  rintro e w1 ⟨s1, rfl, k1, h1⟩
  have H1 := hid (H0.out.nil k1)
  have E1 := hid (k1.has E0.out (by simp))
  have K1 := hid (K0.out.trans k1)
  obtain ⟨kk, hkk, ho⟩ := h1
  obtain ⟨cap, cur, rfl, _⟩ := id ho
  have HO := hid ho
  have HK := hid hkk
  clear k1 ho hkk
  have H2 := hid (H1.out.nil ((Kept.refl [] w1).drew))
  have E2 := hid (E1.out.drew)
  have T1 := hid (since_call d _ _ w1.drew H2.out.dog)
  have T2 := hid ((latched_call v g o x.v w1.drew H2.out.val).mono (R' := fun e w' => e = .returned (.int .i64 x.v.latched) ∧ w' = w1.drew) (fun e w' q => ⟨q.1, q.2.symm⟩))
  have T3 := hid ((request_call v g o x.v w1.drew H2.out.val).mono (R' := fun e w' => e = .returned (.bool x.v.request) ∧ w' = w1.drew) (fun e w' q => ⟨q.1, q.2.symm⟩))
  go_wp2_with fail
  have SK := H2.out.top
  have dd := And.intro (SK.cell 8 (v := .pointer (some ⟨d, 0, none⟩)) rfl) (And.intro (SK.cell 9 (v := .pointer (some ⟨v, 0, none⟩)) rfl) (And.intro (SK.cell 11 (v := .int .i64 x.state) rfl) (And.intro (SK.cell 12 (v := .int .u32 x.ses) rfl) (And.intro (SK.cell 13 (v := .int .u32 x.num) rfl) (SK.cell 14 (v := .int .u32 x.sent) rfl)))))
  clear SK
  have KS := hid ((((((((((Kept.refl [R] w1).set ⟨R, 0, none⟩ (.int .i64 x.state) (by simp)).set ⟨R, 1, none⟩ (.int .u32 x.ses) (by simp)).set ⟨R, 2, none⟩ (.int .u32 x.num) (by simp)).set ⟨R, 3, none⟩ (.int .u32 x.sent) (by simp)).set ⟨R, 4, none⟩ (.int .i64 x.since) (by simp)).set ⟨R, 5, none⟩ (.int .i64 x.v.latched) (by simp)).set ⟨R, 6, none⟩ (.bool x.v.request) (by simp)).set ⟨R, 7, none⟩ (.bool x.v.on) (by simp)).set ⟨R, 8, none⟩ (.slice (some ⟨kk, 0, none⟩) x.v.out.length cap) (by simp)).drew
  have ES := hid (((((((((E1.out.set 0 (.int .i64 x.state)).set 1 (.int .u32 x.ses)).set 2 (.int .u32 x.num)).set 3 (.int .u32 x.sent)).set 4 (.int .i64 x.since)).set 5 (.int .i64 x.v.latched)).set 6 (.bool x.v.request)).set 7 (.bool x.v.on)).set 8 (.slice (some ⟨kk, 0, none⟩) x.v.out.length cap))
  have nRb : b ∉ [R] := by simpa using Ow.Has.ne H2.out.top E2.out (by decide)
  have SK := hid (show ∀ w', Kept [R] w1 w' → (w'.cell? ⟨b, 8, none⟩ = some (.pointer (some ⟨d, 0, none⟩)) ∧ w'.cell? ⟨b, 9, none⟩ = some (.pointer (some ⟨v, 0, none⟩)) ∧ w'.cell? ⟨b, 11, none⟩ = some (.int .i64 x.state) ∧ w'.cell? ⟨b, 12, none⟩ = some (.int .u32 x.ses) ∧ w'.cell? ⟨b, 13, none⟩ = some (.int .u32 x.num) ∧ w'.cell? ⟨b, 14, none⟩ = some (.int .u32 x.sent)) from fun w' q => ⟨(q.has H1.out.top nRb).cell 8 rfl, (q.has H1.out.top nRb).cell 9 rfl, (q.has H1.out.top nRb).cell 11 rfl, (q.has H1.out.top nRb).cell 12 rfl, (q.has H1.out.top nRb).cell 13 rfl, (q.has H1.out.top nRb).cell 14 rfl⟩)
  clear nRb
  have t0 := E2.out.cell 0 rfl
  have f0 := E2.out.free 0
  have u0 := E1.out.cell 0 rfl
  have g0 := E1.out.free 0
  have t1 := E2.out.cell 1 rfl
  have f1 := E2.out.free 1
  have u1 := E1.out.cell 1 rfl
  have g1 := E1.out.free 1
  have t2 := E2.out.cell 2 rfl
  have f2 := E2.out.free 2
  have u2 := E1.out.cell 2 rfl
  have g2 := E1.out.free 2
  have t3 := E2.out.cell 3 rfl
  have f3 := E2.out.free 3
  have u3 := E1.out.cell 3 rfl
  have g3 := E1.out.free 3
  have t4 := E2.out.cell 4 rfl
  have f4 := E2.out.free 4
  have u4 := E1.out.cell 4 rfl
  have g4 := E1.out.free 4
  have t5 := E2.out.cell 5 rfl
  have f5 := E2.out.free 5
  have u5 := E1.out.cell 5 rfl
  have g5 := E1.out.free 5
  have t6 := E2.out.cell 6 rfl
  have f6 := E2.out.free 6
  have u6 := E1.out.cell 6 rfl
  have g6 := E1.out.free 6
  have t7 := E2.out.cell 7 rfl
  have f7 := E2.out.free 7
  have u7 := E1.out.cell 7 rfl
  have g7 := E1.out.free 7
  have t8 := E2.out.cell 8 rfl
  have f8 := E2.out.free 8
  have u8 := E1.out.cell 8 rfl
  have g8 := E1.out.free 8
  go_region_held3 (fun w' => w'.cell? ⟨b, 8, none⟩ = some (.pointer (some ⟨d, 0, none⟩)) ∧ w'.cell? ⟨b, 9, none⟩ = some (.pointer (some ⟨v, 0, none⟩)) ∧ w'.cell? ⟨b, 11, none⟩ = some (.int .i64 x.state) ∧ w'.cell? ⟨b, 12, none⟩ = some (.int .u32 x.ses) ∧ w'.cell? ⟨b, 13, none⟩ = some (.int .u32 x.num) ∧ w'.cell? ⟨b, 14, none⟩ = some (.int .u32 x.sent)) (first | with_reducible assumption | with_reducible exact SK.out _ KS.out) (first | (go_at_call 81; with_reducible refine T1.out.mono ?_; rintro e w2 ⟨rfl, rfl⟩) | (go_at_call 82; with_reducible refine T2.out.mono ?_; rintro e w2 ⟨rfl, rfl⟩) | (go_at_call 83; with_reducible refine T3.out.mono ?_; rintro e w2 ⟨rfl, rfl⟩))
  clear dd t0 t1 t2 t3 t4 t5 t6 t7 t8 f0 f1 f2 f3 f4 f5 f6 f7 f8 u0 u1 u2 u3 u4 u5 u6 u7 u8 g0 g1 g2 g3 g4 g5 g6 g7 g8
  have KF := hid (K1.out.fresh KS.out (by intro i hi hl; simp at hi; subst hi; exact absurd hl (Nat.not_lt.2 RR.out)))
  have ES : Hid (Has (((((((((w1.setCell ⟨R, 0, none⟩ (.int .i64 x.state)).setCell ⟨R, 1, none⟩ (.int .u32 x.ses)).setCell ⟨R, 2, none⟩ (.int .u32 x.num)).setCell ⟨R, 3, none⟩ (.int .u32 x.sent)).setCell ⟨R, 4, none⟩ (.int .i64 x.since)).setCell ⟨R, 5, none⟩ (.int .i64 x.v.latched)).setCell ⟨R, 6, none⟩ (.bool x.v.request)).setCell ⟨R, 7, none⟩ (.bool x.v.on)).setCell ⟨R, 8, none⟩ (.slice (some ⟨kk, 0, none⟩) x.v.out.length cap)).drew R 42 [.int .i64 x.state, .int .u32 x.ses, .int .u32 x.num, .int .u32 x.sent, .int .i64 x.since, .int .i64 x.v.latched, .bool x.v.request, .bool x.v.on, .slice (some ⟨kk, 0, none⟩) x.v.out.length cap]) := hid ES.out.drew
  have HO5 := hid (HO.out.kept KS.out (by have := HK.out; have := E0.out.lt; simp; omega))
  obtain ⟨w5, hw5⟩ : ∃ w5, w5 = (((((((((w1.setCell ⟨R, 0, none⟩ (.int .i64 x.state)).setCell ⟨R, 1, none⟩ (.int .u32 x.ses)).setCell ⟨R, 2, none⟩ (.int .u32 x.num)).setCell ⟨R, 3, none⟩ (.int .u32 x.sent)).setCell ⟨R, 4, none⟩ (.int .i64 x.since)).setCell ⟨R, 5, none⟩ (.int .i64 x.v.latched)).setCell ⟨R, 6, none⟩ (.bool x.v.request)).setCell ⟨R, 7, none⟩ (.bool x.v.on)).setCell ⟨R, 8, none⟩ (.slice (some ⟨kk, 0, none⟩) x.v.out.length cap)).drew := ⟨_, rfl⟩
  rw [← hw5] at KF ES HO5 ⊢
  clear hw5 KS
  have u0 := ES.out.cell 0 rfl
  have u1 := ES.out.cell 1 rfl
  have u2 := ES.out.cell 2 rfl
  have u3 := ES.out.cell 3 rfl
  have u4 := ES.out.cell 4 rfl
  have u5 := ES.out.cell 5 rfl
  have u6 := ES.out.cell 6 rfl
  have u7 := ES.out.cell 7 rfl
  have u8 := ES.out.cell 8 rfl
  go_wp2_with fail
  refine bodyPost_ret (v := eval' x.see (.slice (some ⟨kk, 0, none⟩) x.v.out.length cap)) (by simp [results, Tryz.results44, go_sem, eval', D.see, *]) rfl ?_
  exact ⟨_, rfl, KF.out, kk, Nat.le_trans K0.out.size HK.out, HO5.out⟩
end DevC
end Go.Proofs.YtinaliblnihpbaaGreat

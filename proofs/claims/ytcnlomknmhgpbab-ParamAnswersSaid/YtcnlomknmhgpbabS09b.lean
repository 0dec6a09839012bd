/- Layer 9: the law ParamAnswers. -/
import Derived.Test.YtcnlomknmhgpbabS09a
import Derived.Test.YtcnlomknmhgpbabSlM
import Derived.Deep.RegionHeld3
namespace Go.Proofs.Ytcnlomknmhgpbab.S09
open Go Go.RowKit Go.Proofs.Ytcnlomknmhgpbab.Hp Go.Proofs.Ytcnlomknmhgpbab.Sl Go.Proofs.Ytcnlomknmhgpbab.Ap Go.Proofs.Ytcnlomknmhgpbab.Br Go.Proofs.Ytcnlomknmhgpbab.BrM Go.Proofs.Ytcnlomknmhgpbab.Fit Go.Proofs.Ytcnlomknmhgpbab.Cells Go.Proofs.Ytcnlomknmhgpbab.SlM
open Go.Proofs.Ytcnlomknmhgpbab.Pure (w4_len str_eq)
set_option linter.unusedVariables false
set_option linter.unusedSimpArgs false
/-- The set's cells. -/
def PS (B : Nat) (a b c d e : Int) (w : World) : Prop := w.cell? ⟨B, 0, none⟩ = some (.int .u32 a) ∧ w.cell? ⟨B, 1, none⟩ = some (.int .i64 b) ∧ w.cell? ⟨B, 2, none⟩ = some (.int .i64 c) ∧ w.cell? ⟨B, 3, none⟩ = some (.int .i64 d) ∧ w.cell? ⟨B, 4, none⟩ = some (.int .u32 e)
theorem PS.of {w : World} {B : Nat} {a b c d e : Int} (h : Has w B 24 [.int .u32 a, .int .i64 b, .int .i64 c, .int .i64 d, .int .u32 e]) : PS B a b c d e w := ⟨h.cell 0 rfl, h.cell 1 rfl, h.cell 2 rfl, h.cell 3 rfl, h.cell 4 rfl⟩
theorem wpAnyH_weaken {P : Program} {md : Region.Mode} {ops : Array Oper} {Q : Exit → Act → World → Prop} {S S' : World → Prop} (h : ∀ w, S' w → S w) :
    ∀ (fuel : Nat) (listed : Array Bool) (a : Act) (w : World), wpAnyH P md ops Q S' fuel listed a w → wpAnyH P md ops Q S fuel listed a w
  | 0, _, _, _, h0 => h0
  | fuel + 1, _, _, _, h0 => ⟨h0.1, fun i hi => wpOp_mono (fun a' w' h' => ⟨h _ h'.1, wpAnyH_weaken h fuel _ a' w' h'.2⟩) (h0.2 i hi)⟩
set_option maxRecDepth 100000 in
set_option maxHeartbeats 6400000 in
theorem ParamAnswers_walk (a b c d e : Int) (s : Value) (l : List Int) (w : World) (hb : Bytes w s l) (hby : Gf.By l) (ha : 0 ≤ a) (he : 0 ≤ e) :
    Calls Try.prog 3 #[.agg #[.int .u32 a, .int .i64 b, .int .i64 c, .int .i64 d, .int .u32 e], s] w fun e w' => e = .returned (.bool true) ∧ Below w.heap.size w w' := by
  obtain ⟨enc, sign, err, sig, m, hP⟩ := param_all a b c d e ha he
  have PP := Lib.hid hP
  clear hP ha he
  have hH := Has.new w 24 [.int .u32 a, .int .i64 b, .int .i64 c, .int .i64 d, .int .u32 e]
  have hk := (Kept.refl [] w).alloc (.cells #[.int .u32 a, .int .i64 b, .int .i64 c, .int .i64 d, .int .u32 e] 24)
  obtain ⟨sp, sc, rfl⟩ : ∃ p c, s = .slice p l.length c := by rcases hb with ⟨rfl, rfl⟩ | ⟨x, cap, rfl, _⟩ <;> exact ⟨_, _, rfl⟩
  have SB := Lib.hid hb
  have BY := Lib.hid hby
  clear hb hby
  go_enter Try.func3, Try.ntmps3
  go_upto_region 1 with (fail)
  have hH : Has (w.alloc (.cells #[.int .u32 a, .int .i64 b, .int .i64 c, .int .i64 d, .int .u32 e] 24)) w.heap.size 24 [.int .u32 a, .int .i64 b, .int .i64 c, .int .i64 d, .int .u32 e] := hH
  generalize w.alloc (.cells #[.int .u32 a, .int .i64 b, .int .i64 c, .int .i64 d, .int .u32 e] 24) = w0 at *
  generalize hBz : w.heap.size = B at *
  have HK := Lib.hid hk
  have HH := Lib.hid hH
  clear hk hH
  go_wp2_with fail
  refine (awake_call _).mono ?_
  rintro x w1 ⟨rfl, k1⟩
  have H1 := Lib.hid (k1.has HH.out (by simp))
  have K1 := Lib.hid (HK.out.trans k1)
  clear HH k1 HK
  by_cases hlen : 1000 < l.length
  · have e2 : decide ((l.length : Int) > 1000) = true := by simp; omega
    clear hlen
    go_wp2_with fail
    go_ret
    exact ⟨rfl, hBz ▸ K1.out.toBelow (by simp)⟩
  have e2 : decide ((l.length : Int) > 1000) = false := by simp; omega
  have H8 := Lib.hid (show l.length ≤ 1000 by omega)
  clear hlen
  obtain ⟨c0, c1, c2, c3, c4⟩ := PS.of H1.out
  go_wp2_with fail
  refine (PP.out.encode _).mono ?_
  rintro x w2 ⟨va, rfl, k2, m2⟩
  have H2 := Lib.hid (k2.has H1.out (by simp))
  have K2 := Lib.hid (K1.out.trans k2)
  have A2 := Lib.hid m2
  clear c0 c1 c2 c3 c4 k2 m2 H1 K1
  obtain ⟨c0, c1, c2, c3, c4⟩ := PS.of H2.out
  go_wp2_with fail
  refine (PP.out.rencode _).mono ?_
  rintro x w3 ⟨vb, rfl, k3, m3⟩
  have H3 := Lib.hid (k3.has H2.out (by simp))
  have K3 := Lib.hid (K2.out.trans k3)
  have A3 := Lib.hid (A2.out.kept k3 (by simp))
  have s1 := A3.out.bytes.str
  have s2 := m3.bytes.str
  have ne1 : ((strOfNums enc).toList != (strOfNums enc).toList) = false := by simp
  have ne2 : (err != err) = false := by simp
  clear c0 c1 c2 c3 c4 k3 m3 H2 K2 A2
  obtain ⟨c0, c1, c2, c3, c4⟩ := PS.of H3.out
  go_wp2_with fail
  refine (PP.out.check _).mono ?_
  rintro x w4 ⟨rfl, k4⟩
  have H4 := Lib.hid (k4.has H3.out (by simp))
  have K4 := Lib.hid (K3.out.trans k4)
  have A4 := Lib.hid (A3.out.kept k4 (by simp))
  clear c0 c1 c2 c3 c4 k4 H3 K3 A3 s1 s2 ne1
  obtain ⟨c0, c1, c2, c3, c4⟩ := PS.of H4.out
  go_wp2_with fail
  refine (PP.out.signature _).mono ?_
  rintro x w5 ⟨rfl, k5⟩
  have H5 := Lib.hid (k5.has H4.out (by simp))
  have K5 := Lib.hid (K4.out.trans k5)
  have A5 := Lib.hid (A4.out.kept k5 (by simp))
  clear c0 c1 c2 c3 c4 k5 H4 K4 A4
  obtain ⟨c0, c1, c2, c3, c4⟩ := PS.of H5.out
  go_wp2_with fail
  refine (PP.out.sign_ _).mono ?_
  rintro x w6 ⟨vs, rfl, k6, m6⟩
  have H6 := Lib.hid (k6.has H5.out (by simp))
  have K6 := Lib.hid (K5.out.trans k6)
  have A6 := Lib.hid (A5.out.kept k6 (by simp))
  have S6 := Lib.hid m6.1
  obtain ⟨ps, qs, hs, _⟩ := Row.shape2 m6.1
  subst hs
  clear c0 c1 c2 c3 c4 k6 m6 H5 K5 A5
  have SK := Lib.hid (show ∀ w', Kept [] w6 w' → PS B a b c d e w' from fun w' k => PS.of (k.has H6.out (by simp)))
  have hS := SK.out _ ((Kept.refl [] w6).drew)
  have RN := Lib.hid (row_new w6.drew [] (by unfold maxLen; simp))
  have D6 := Lib.hid ((SB.out.kept K6.out (by simp)).kept (((Kept.refl [] w6).drew).alloc (.cells (U8 []).toArray 5)) (by simp))
  go_wp2_with fail
  go_region_held3 (fun w' => w'.cell? ⟨B, 0, none⟩ = some (.int .u32 a) ∧ w'.cell? ⟨B, 1, none⟩ = some (.int .i64 b) ∧ w'.cell? ⟨B, 2, none⟩ = some (.int .i64 c) ∧ w'.cell? ⟨B, 3, none⟩ = some (.int .i64 d) ∧ w'.cell? ⟨B, 4, none⟩ = some (.int .u32 e)) (first | exact SK.out _ (K7.out.trans k8) | exact SK.out _ K7.out | exact SK.out _ (((Kept.refl [] w6).drew).alloc _) | exact SK.out _ ((Kept.refl [] w6).drew) | go_keep)
    (first
      | (refine step_many (by rfl) _ _ (by rfl) _ [] _ l RN.out D6.out (by rfl) (by rfl) (by have := H8.out; simp; omega) ?_; intro y w7 hm; have K7 := Lib.hid ((((Kept.refl [] w6).drew).alloc (.cells (U8 []).toArray 5)).fresh hm.kept (by intro i hi hl; simp [Value.ownBlock] at hi; omega)); have Y7 := Lib.hid (Row.bytes hm.row); clear hm)
      | (go_at_call 19; refine (PP.out.match_ _ _ l Y7.out BY.out).mono ?_; rintro x w8 ⟨rfl, k8⟩))
  have k68 := K7.out.trans k8
  have K8 := Lib.hid (K6.out.trans k68)
  have A8 := Lib.hid (A6.out.kept k68 (by simp))
  have S8 := Lib.hid (S6.out.kept k68 (by simp))
  have P8 := Lib.hid (k68.has H6.out (by simp))
  clear k68 K7 k8 Y7 hS RN D6 SK K6 A6 S6 H6
  rcases PP.out.says with ⟨he, hsn, hsg, hm⟩ | ⟨he, hsg, hm⟩
  case inr =>
    subst he
    subst hsg
    have hml := hm l
    have ne3 : ((90 : Int) != 0) = true := by decide
    clear hm
    go_wp2_with fail
    go_ret
    exact ⟨rfl, hBz ▸ K8.out.toBelow (by simp)⟩
  subst he
  have ne3 : ((0 : Int) != 0) = false := by decide
  have HM := Lib.hid hm
  have HSN := Lib.hid hsn
  have HSG := Lib.hid hsg
  clear hm hsn hsg
  obtain ⟨c0, c1, c2, c3, c4⟩ := PS.of P8.out
  have T8 := Lib.hid (Row.bytes S8.out)
  go_wp2_with fail
  refine (PP.out.match_ _ _ sign T8.out PP.out.bys.1).mono ?_
  rintro x w9 ⟨rfl, k9⟩
  have K9 := Lib.hid (K8.out.trans k9)
  have A9 := Lib.hid (A8.out.kept k9 (by simp))
  have S9 := Lib.hid (S8.out.kept k9 (by simp))
  have P9 := Lib.hid (k9.has P8.out (by simp))
  clear c0 c1 c2 c3 c4 k9 K8 A8 S8 P8 T8
  have SK := Lib.hid (show ∀ w', Kept [] w9 w' → PS B a b c d e w' from fun w' k => PS.of (k.has P9.out (by simp)))
  have hS := SK.out _ ((Kept.refl [] w9).drew)
  -- the three worlds ahead of the first append
  have SG := Lib.hid (show ∀ w', Kept [] w9 w' → Bytes w' (.slice ps sign.length qs) sign from fun w' k => Row.bytes (S9.out.kept k (by simp)))
  have RA := Lib.hid (row_new w9.drew [] (by unfold maxLen; simp))
  have RB := Lib.hid (row_new2 w9 (.cells #[.int .u8 0] 5) [] (by unfold maxLen; simp))
  have RC := Lib.hid (RA.out.kept (((Kept.refl [] _)).alloc (.cells #[.int .u8 0] 5)) (by simp))
  have kA := ((Kept.refl [] w9).drew).alloc (.cells (U8 []).toArray 5)
  have kB := (((Kept.refl [] w9).drew).alloc (.cells #[.int .u8 0] 5)).alloc (.cells (U8 []).toArray 5)
  have kC := (((Kept.refl [] w9).drew).alloc (.cells (U8 []).toArray 5)).alloc (.cells #[.int .u8 0] 5)
  have TB := Lib.hid ((Row.bytes (row_new w9.drew [0] (by unfold maxLen; simp))).kept ((Kept.refl [] _).alloc (.cells (U8 []).toArray 5)) (by simp))
  have TC := Lib.hid (Row.bytes (row_new2 w9 (.cells (U8 []).toArray 5) [0] (by unfold maxLen; simp)))
  have KA := Lib.hid kA
  have KB := Lib.hid kB
  have KC := Lib.hid kC
  have hsl : ([] : List Int).length + sign.length ≤ 70368744177664 := by have := PP.out.short; simp; omega
  have hsl2 : ([] ++ sign : List Int).length + [(0 : Int)].length ≤ 70368744177664 := by have := PP.out.short; simp; omega
  have BY2 := Lib.hid (show Gf.By ([] ++ sign ++ [0]) from fun x hx => by
    rcases List.mem_append.1 hx with h | h
    · exact PP.out.bys.1 x (by simpa using h)
    · simp at h; subst h; omega)
  clear kA kB kC
  go_wp2_with fail
  go_region_held3 (fun w' => w'.cell? ⟨B, 0, none⟩ = some (.int .u32 a) ∧ w'.cell? ⟨B, 1, none⟩ = some (.int .i64 b) ∧ w'.cell? ⟨B, 2, none⟩ = some (.int .i64 c) ∧ w'.cell? ⟨B, 3, none⟩ = some (.int .i64 d) ∧ w'.cell? ⟨B, 4, none⟩ = some (.int .u32 e)) (first | exact SK.out _ KA.out | exact SK.out _ KB.out | exact SK.out _ KC.out | exact SK.out _ ((Kept.refl [] w9).drew) | exact SK.out _ (((Kept.refl [] w9).drew).alloc _) | exact SK.out _ (KD.out.trans k9') | exact SK.out _ KD.out | exact SK.out _ KE.out | exact SK.out _ (KE.out.alloc _) | go_keep)
    (first
      | (refine step_many (by rfl) _ _ (by rfl) _ [] _ sign RA.out (SG.out _ KA.out) (by rfl) (by rfl) hsl ?_; intro y wd hm; have YBK := Lib.hid (hm.from_ (B := w9.heap.size) (by intro i hi; simp [Value.ownBlock] at hi; omega) KA.out.size); have KE := Lib.hid (KA.out.fresh hm.kept (by intro i hi hl; simp [Value.ownBlock] at hi; omega)); have YE := Lib.hid (hm.row.kept ((Kept.refl [] wd).alloc (.cells #[.int .u8 0] 5)) (by simp)); have TE := Lib.hid (Row.bytes (row_new wd [0] (by unfold maxLen; simp))); clear hm)
      | (refine step_many (by rfl) _ _ (by rfl) _ [] _ sign RB.out (SG.out _ KB.out) (by rfl) (by rfl) hsl ?_; intro y wd hm; have YBK := Lib.hid (hm.from_ (B := w9.heap.size) (by intro i hi; simp [Value.ownBlock] at hi; omega) KB.out.size); have KE := Lib.hid (KB.out.fresh hm.kept (by intro i hi hl; simp [Value.ownBlock] at hi; omega)); have YE := Lib.hid hm.row; have TE := Lib.hid (TB.out.kept hm.kept (by intro b0 o0 n0 c0' e0 hl0 hm0; simp [Value.ownBlock] at e0 hm0; omega)); clear hm)
      | (refine step_many (by rfl) _ _ (by rfl) _ [] _ sign RC.out (SG.out _ KC.out) (by rfl) (by rfl) hsl ?_; intro y wd hm; have YBK := Lib.hid (hm.from_ (B := w9.heap.size) (by intro i hi; simp [Value.ownBlock] at hi; omega) KC.out.size); have KE := Lib.hid (KC.out.fresh hm.kept (by intro i hi hl; simp [Value.ownBlock] at hi; omega)); have YE := Lib.hid hm.row; have TE := Lib.hid (TC.out.kept hm.kept (by intro b0 o0 n0 c0' e0 hl0 hm0; simp [Value.ownBlock] at e0 hm0; omega)); clear hm)
      | (refine step_many (by rfl) _ _ (by rfl) _ ([] ++ sign) _ [0] YE.out TE.out (by rfl) (by rfl) hsl2 ?_; intro y2 we hm; have KD := Lib.hid (Kept.fresh (KE.out) hm.kept (by intro i hi hl; simp at hi; have := YBK.out i hi; omega)); have YD := Lib.hid (Row.bytes hm.row); clear hm)
      | (refine step_many (by rfl) _ _ (by rfl) _ ([] ++ sign) _ [0] YE.out TE.out (by rfl) (by rfl) hsl2 ?_; intro y2 we hm; have KD := Lib.hid (Kept.fresh (KE.out.alloc (.cells #[.int .u8 0] 5)) hm.kept (by intro i hi hl; simp at hi; have := YBK.out i hi; omega)); have YD := Lib.hid (Row.bytes hm.row); clear hm)
      | (go_at_call 19; refine (PP.out.match_ _ _ ([] ++ sign ++ [0]) YD.out BY2.out).mono ?_; rintro x wf ⟨rfl, k9'⟩))
  all_goals (
    have kf := KD.out.trans k9'
    have Kf := Lib.hid (K9.out.trans kf)
    have Af := Lib.hid (A9.out.kept kf (by simp))
    have Sf := Lib.hid (S9.out.kept kf (by simp))
    have hm1 : (m l == ((strOfNums l).toList == (strOfNums sign).toList)) = true := by rw [HM.out l, str_eq BY.out PP.out.bys.1]; simp
    have hm2 : m sign = true := by rw [HM.out sign]; simp
    have hm3 : m (sign ++ [0]) = false := by rw [HM.out (sign ++ [0])]; simp
    have hm4 : ((strOfNums (Pure.w4 sig)).toList == (strOfNums sign).toList) = true := by rw [HSN.out]; simp
    have hm5 : (sig == ((Gf.crc enc : Nat) : Int)) = true := by rw [HSG.out]; simp
    clear kf k9' KD YD KE YE TE YBK hS SK SG RA RB RC TB TC KA KB KC
    have SK := Lib.hid (show ∀ w', Kept [] wf w' → (convert 25 9 (.slice ps sign.length qs)).run Try.prog w' = .ok (.string (strOfNums sign)) w' ∧ (convert 25 9 (.slice sp l.length sc)).run Try.prog w' = .ok (.string (strOfNums l)) w' from fun w' k => ⟨(Row.bytes (Sf.out.kept k (by simp))).str, (SB.out.kept (Kf.out.trans k) (by simp)).str⟩)
    have hS := SK.out _ ((Kept.refl [] wf).drew)
    go_wp2_with fail
    refine wp_region_noPanic ?_
    refine wp_region_held_drew (S := fun w' => (convert 25 9 (.slice ps sign.length qs)).run Try.prog w' = .ok (.string (strOfNums sign)) w' ∧ (convert 25 9 (.slice sp l.length sc)).run Try.prog w' = .ok (.string (strOfNums l)) w') (by kernel_rfl) hS (fun hHeld => ?_)
    refine wpAnyH_take (i := 0) (oi := { dst := some 96, op := Go.Op.move (Go.Operand.tmp 9), type := 22, pos := "law.go:42", after := #[], guard := none }) (v := ?_) rfl (by kernel_rfl) (by kernel_rfl) (by kernel_rfl) (fun _ _ _ h => h) (Or.inl ⟨by rfl, ?_⟩) hHeld ?_
    rotate_left 1
    · intro w9 hSw; (try dsimp only at hSw); first | (go_simp; done) | (go_simp; with_reducible rfl)
    try simp only [Act.put, List.setIfInBounds_toArray, List.set_cons_zero, List.set_cons_succ]
    refine wpAnyH_take (i := 3) (oi := { dst := some 99, op := Go.Op.move (Go.Operand.tmp 11), type := 25, pos := "law.go:42", after := #[], guard := none }) (v := ?_) rfl (by kernel_rfl) (by kernel_rfl) (by kernel_rfl) (fun _ _ _ h => h) (Or.inl ⟨by rfl, ?_⟩) hHeld ?_
    rotate_left 1
    · intro w9 hSw; (try dsimp only at hSw); first | (go_simp; done) | (go_simp; with_reducible rfl)
    try simp only [Act.put, List.setIfInBounds_toArray, List.set_cons_zero, List.set_cons_succ]
    refine wpAnyH_take (i := 4) (oi := { dst := some 100, op := Go.Op.convert 25 9 (Go.Operand.tmp 99), type := 9, pos := "law.go:42", after := #[{ on := 3, ground := Go.Ground.data }], guard := none }) (v := ?_) rfl (by kernel_rfl) (by kernel_rfl) (by kernel_rfl) (fun _ _ _ h => h) (Or.inl ⟨by rfl, ?_⟩) hHeld ?_
    rotate_left 1
    · intro w9 hSw; (try dsimp only at hSw); first | (go_simp; done) | (go_simp; with_reducible rfl)
    try simp only [Act.put, List.setIfInBounds_toArray, List.set_cons_zero, List.set_cons_succ]
    refine wpAnyH_ready (rs := [1]) (by kernel_rfl) (by simp) ?_
    refine AllReadyH.cons (o := { dst := some 97, op := Go.Op.call { callee := Go.Callee.value (Go.Operand.func 20), args := #[Go.Operand.tmp 96], argTypes := #[22] }, type := 25, pos := "law.go:42", after := #[{ on := 0, ground := Go.Ground.data }], guard := none }) rfl (fun K hK => ?_) AllReadyH.nil
    go_simp
    go_at_call 20
    refine (bytes_call sig _).mono ?_
    rintro x wg ⟨vy, rfl, kg, mg⟩
    have Kg := Lib.hid (((Kept.refl [] wf).drew).trans kg)
    have SJ := Lib.hid (show ∀ w', Kept [] wg w' → (convert 25 9 vy).run Try.prog w' = .ok (.string (strOfNums (Pure.w4 sig))) w' ∧ (convert 25 9 (.slice ps sign.length qs)).run Try.prog w' = .ok (.string (strOfNums sign)) w' ∧ (convert 25 9 (.slice sp l.length sc)).run Try.prog w' = .ok (.string (strOfNums l)) w' from fun w' k => ⟨(mg.bytes.kept k (by simp)).str, SK.out _ (Kg.out.trans k)⟩)
    clear kg mg
    refine hK.out _ _ (SK.out _ Kg.out) (fun _ => ?_)
    clear hK K
    try simp only [Act.put, List.setIfInBounds_toArray, List.set_cons_zero, List.set_cons_succ]
    refine wpAnyH_weaken (S' := fun w' => (convert 25 9 vy).run Try.prog w' = .ok (.string (strOfNums (Pure.w4 sig))) w' ∧ (convert 25 9 (.slice ps sign.length qs)).run Try.prog w' = .ok (.string (strOfNums sign)) w' ∧ (convert 25 9 (.slice sp l.length sc)).run Try.prog w' = .ok (.string (strOfNums l)) w') (fun _ h => h.2) _ _ _ _ ?_
    have hJ := SJ.out _ (Kept.refl [] wg)
    refine wpAnyH_take (i := 2) (oi := { dst := some 98, op := Go.Op.convert 25 9 (Go.Operand.tmp 97), type := 9, pos := "law.go:42", after := #[{ on := 1, ground := Go.Ground.data }], guard := none }) (v := ?_) rfl (by kernel_rfl) (by kernel_rfl) (by kernel_rfl) (fun _ _ _ h => h) (Or.inl ⟨by rfl, ?_⟩) hJ ?_
    rotate_left 1
    · intro w9 hSw; (try dsimp only at hSw); first | (go_simp; done) | (go_simp; with_reducible rfl)
    try simp only [Act.put, List.setIfInBounds_toArray, List.set_cons_zero, List.set_cons_succ]
    refine wpAnyH_take (i := 5) (oi := { dst := some 101, op := Go.Op.binOp Go.BinOp.eql 9 (Go.Operand.tmp 98) (Go.Operand.tmp 100) 9, type := 4, pos := "law.go:42", after := #[{ on := 2, ground := Go.Ground.data }, { on := 4, ground := Go.Ground.data }], guard := none }) (v := ?_) rfl (by kernel_rfl) (by kernel_rfl) (by kernel_rfl) (fun _ _ _ h => h) (Or.inl ⟨by rfl, ?_⟩) hJ ?_
    rotate_left 1
    · intro w9 hSw; (try dsimp only at hSw); first | (go_simp; done) | (go_simp; with_reducible rfl)
    try simp only [Act.put, List.setIfInBounds_toArray, List.set_cons_zero, List.set_cons_succ]
    refine wpAnyH_take (i := 6) (oi := { dst := some 102, op := Go.Op.move (Go.Operand.tmp 101), type := 4, pos := "law.go:42", after := #[{ on := 5, ground := Go.Ground.data }, { on := 1, ground := Go.Ground.chain }], guard := none }) (v := ?_) rfl (by kernel_rfl) (by kernel_rfl) (by kernel_rfl) (fun _ _ _ h => h) (Or.inl ⟨by rfl, ?_⟩) hJ ?_
    rotate_left 1
    · intro w9 hSw; (try dsimp only at hSw); first | (go_simp; done) | (go_simp; with_reducible rfl)
    try simp only [Act.put, List.setIfInBounds_toArray, List.set_cons_zero, List.set_cons_succ]
    refine wpAnyH_take (i := 7) (oi := { dst := some 103, op := Go.Op.move (Go.Operand.tmp 9), type := 22, pos := "law.go:42", after := #[{ on := 6, ground := Go.Ground.guard }], guard := some (6, true) }) (v := ?_) rfl (by kernel_rfl) (by kernel_rfl) (by kernel_rfl) (fun _ _ _ h => h) (Or.inl ⟨by rfl, ?_⟩) hJ ?_
    rotate_left 1
    · intro w9 hSw; (try dsimp only at hSw); first | (go_simp; done) | (go_simp; with_reducible rfl)
    try simp only [Act.put, List.setIfInBounds_toArray, List.set_cons_zero, List.set_cons_succ]
    refine wpAnyH_take (i := 8) (oi := { dst := some 104, op := Go.Op.move (Go.Operand.tmp 5), type := 25, pos := "law.go:42", after := #[{ on := 6, ground := Go.Ground.guard }], guard := some (6, true) }) (v := ?_) rfl (by kernel_rfl) (by kernel_rfl) (by kernel_rfl) (fun _ _ _ h => h) (Or.inl ⟨by rfl, ?_⟩) hJ ?_
    rotate_left 1
    · intro w9 hSw; (try dsimp only at hSw); first | (go_simp; done) | (go_simp; with_reducible rfl)
    try simp only [Act.put, List.setIfInBounds_toArray, List.set_cons_zero, List.set_cons_succ]
    refine wpAnyH_ready (rs := [9]) (by kernel_rfl) (by simp) ?_
    refine AllReadyH.cons (o := { dst := some 105, op := Go.Op.call { callee := Go.Callee.value (Go.Operand.func 21), args := #[Go.Operand.tmp 104], argTypes := #[25] }, type := 22, pos := "law.go:42", after := #[{ on := 8, ground := Go.Ground.data }, { on := 6, ground := Go.Ground.chain }, { on := 6, ground := Go.Ground.guard }], guard := some (6, true) }) rfl (fun K hK => ?_) AllReadyH.nil
    go_simp
    go_at_call 21
    refine (bits_call _ enc _ ((Af.out.kept Kg.out (by simp)).bytes) PP.out.bys.2 (by have := PP.out.short; omega)).mono ?_
    rintro x wh ⟨rfl, q, rfl⟩
    refine hK.out _ _ (SJ.out _ ((Kept.refl [] wg).drewN q)) (fun _ => ?_)
    clear hK K hJ
    try simp only [Act.put, List.setIfInBounds_toArray, List.set_cons_zero, List.set_cons_succ]
    have hJ := SJ.out _ ((Kept.refl [] wg).drewN q)
    refine wpAnyH_take (i := 10) (oi := { dst := some 106, op := Go.Op.binOp Go.BinOp.eql 22 (Go.Operand.tmp 103) (Go.Operand.tmp 105) 22, type := 4, pos := "law.go:42", after := #[{ on := 7, ground := Go.Ground.data }, { on := 9, ground := Go.Ground.data }, { on := 6, ground := Go.Ground.guard }], guard := some (6, true) }) (v := ?_) rfl (by kernel_rfl) (by kernel_rfl) (by kernel_rfl) (fun _ _ _ h => h) (Or.inl ⟨by rfl, ?_⟩) hJ ?_
    rotate_left 1
    · intro w9 hSw; (try dsimp only at hSw); first | (go_simp; done) | (go_simp; with_reducible rfl)
    try simp only [Act.put, List.setIfInBounds_toArray, List.set_cons_zero, List.set_cons_succ]
    refine wpAnyH_take (i := 11) (oi := { dst := some 107, op := Go.Op.pick (Go.Operand.tmp 102) (Go.Operand.tmp 106) (Go.Operand.const (Go.Value.bool false)), type := 4, pos := "law.go:42", after := #[{ on := 6, ground := Go.Ground.data }, { on := 10, ground := Go.Ground.data }], guard := none }) (v := ?_) rfl (by kernel_rfl) (by kernel_rfl) (by kernel_rfl) (fun _ _ _ h => h) (Or.inl ⟨by rfl, ?_⟩) hJ ?_
    rotate_left 1
    · intro w9 hSw; (try dsimp only at hSw); first | (go_simp; done) | (go_simp; with_reducible rfl)
    try simp only [Act.put, List.setIfInBounds_toArray, List.set_cons_zero, List.set_cons_succ]
    refine wpAnyH_take (i := 12) (oi := { dst := some 108, op := Go.Op.move (Go.Operand.tmp 107), type := 4, pos := "law.go:42", after := #[{ on := 11, ground := Go.Ground.data }, { on := 9, ground := Go.Ground.chain }], guard := none }) (v := ?_) rfl (by kernel_rfl) (by kernel_rfl) (by kernel_rfl) (fun _ _ _ h => h) (Or.inl ⟨by rfl, ?_⟩) hJ ?_
    rotate_left 1
    · intro w9 hSw; (try dsimp only at hSw); first | (go_simp; done) | (go_simp; with_reducible rfl)
    try simp only [Act.put, List.setIfInBounds_toArray, List.set_cons_zero, List.set_cons_succ]
    refine wpAnyH_take (i := 13) (oi := { dst := some 109, op := Go.Op.move (Go.Operand.tmp 12), type := 4, pos := "law.go:42", after := #[{ on := 12, ground := Go.Ground.guard }], guard := some (12, true) }) (v := ?_) rfl (by kernel_rfl) (by kernel_rfl) (by kernel_rfl) (fun _ _ _ h => h) (Or.inl ⟨by rfl, ?_⟩) hJ ?_
    rotate_left 1
    · intro w9 hSw; (try dsimp only at hSw); first | (go_simp; done) | (go_simp; with_reducible rfl)
    try simp only [Act.put, List.setIfInBounds_toArray, List.set_cons_zero, List.set_cons_succ]
    refine wpAnyH_take (i := 14) (oi := { dst := some 110, op := Go.Op.move (Go.Operand.tmp 1), type := 25, pos := "law.go:42", after := #[{ on := 12, ground := Go.Ground.guard }], guard := some (12, true) }) (v := ?_) rfl (by kernel_rfl) (by kernel_rfl) (by kernel_rfl) (fun _ _ _ h => h) (Or.inl ⟨by rfl, ?_⟩) hJ ?_
    rotate_left 1
    · intro w9 hSw; (try dsimp only at hSw); first | (go_simp; done) | (go_simp; with_reducible rfl)
    try simp only [Act.put, List.setIfInBounds_toArray, List.set_cons_zero, List.set_cons_succ]
    refine wpAnyH_take (i := 15) (oi := { dst := some 111, op := Go.Op.convert 25 9 (Go.Operand.tmp 110), type := 9, pos := "law.go:42", after := #[{ on := 14, ground := Go.Ground.data }, { on := 12, ground := Go.Ground.guard }], guard := some (12, true) }) (v := ?_) rfl (by kernel_rfl) (by kernel_rfl) (by kernel_rfl) (fun _ _ _ h => h) (Or.inl ⟨by rfl, ?_⟩) hJ ?_
    rotate_left 1
    · intro w9 hSw; (try dsimp only at hSw); first | (go_simp; done) | (go_simp; with_reducible rfl)
    try simp only [Act.put, List.setIfInBounds_toArray, List.set_cons_zero, List.set_cons_succ]
    refine wpAnyH_take (i := 16) (oi := { dst := some 112, op := Go.Op.move (Go.Operand.tmp 11), type := 25, pos := "law.go:42", after := #[{ on := 12, ground := Go.Ground.guard }], guard := some (12, true) }) (v := ?_) rfl (by kernel_rfl) (by kernel_rfl) (by kernel_rfl) (fun _ _ _ h => h) (Or.inl ⟨by rfl, ?_⟩) hJ ?_
    rotate_left 1
    · intro w9 hSw; (try dsimp only at hSw); first | (go_simp; done) | (go_simp; with_reducible rfl)
    try simp only [Act.put, List.setIfInBounds_toArray, List.set_cons_zero, List.set_cons_succ]
    refine wpAnyH_take (i := 17) (oi := { dst := some 113, op := Go.Op.convert 25 9 (Go.Operand.tmp 112), type := 9, pos := "law.go:42", after := #[{ on := 16, ground := Go.Ground.data }, { on := 12, ground := Go.Ground.guard }], guard := some (12, true) }) (v := ?_) rfl (by kernel_rfl) (by kernel_rfl) (by kernel_rfl) (fun _ _ _ h => h) (Or.inl ⟨by rfl, ?_⟩) hJ ?_
    rotate_left 1
    · intro w9 hSw; (try dsimp only at hSw); first | (go_simp; done) | (go_simp; with_reducible rfl)
    try simp only [Act.put, List.setIfInBounds_toArray, List.set_cons_zero, List.set_cons_succ]
    refine wpAnyH_take (i := 18) (oi := { dst := some 114, op := Go.Op.binOp Go.BinOp.eql 9 (Go.Operand.tmp 111) (Go.Operand.tmp 113) 9, type := 4, pos := "law.go:42", after := #[{ on := 15, ground := Go.Ground.data }, { on := 17, ground := Go.Ground.data }, { on := 12, ground := Go.Ground.guard }], guard := some (12, true) }) (v := ?_) rfl (by kernel_rfl) (by kernel_rfl) (by kernel_rfl) (fun _ _ _ h => h) (Or.inl ⟨by rfl, ?_⟩) hJ ?_
    rotate_left 1
    · intro w9 hSw; (try dsimp only at hSw); first | (go_simp; done) | (go_simp; with_reducible rfl)
    try simp only [Act.put, List.setIfInBounds_toArray, List.set_cons_zero, List.set_cons_succ]
    refine wpAnyH_take (i := 19) (oi := { dst := some 115, op := Go.Op.binOp Go.BinOp.eql 4 (Go.Operand.tmp 109) (Go.Operand.tmp 114) 4, type := 4, pos := "law.go:42", after := #[{ on := 13, ground := Go.Ground.data }, { on := 18, ground := Go.Ground.data }, { on := 12, ground := Go.Ground.guard }], guard := some (12, true) }) (v := ?_) rfl (by kernel_rfl) (by kernel_rfl) (by kernel_rfl) (fun _ _ _ h => h) (Or.inl ⟨by rfl, ?_⟩) hJ ?_
    rotate_left 1
    · intro w9 hSw; (try dsimp only at hSw); first | (go_simp; done) | (go_simp; with_reducible rfl)
    try simp only [Act.put, List.setIfInBounds_toArray, List.set_cons_zero, List.set_cons_succ]
    refine wpAnyH_take (i := 20) (oi := { dst := some 116, op := Go.Op.pick (Go.Operand.tmp 108) (Go.Operand.tmp 115) (Go.Operand.const (Go.Value.bool false)), type := 4, pos := "law.go:42", after := #[{ on := 12, ground := Go.Ground.data }, { on := 19, ground := Go.Ground.data }], guard := none }) (v := ?_) rfl (by kernel_rfl) (by kernel_rfl) (by kernel_rfl) (fun _ _ _ h => h) (Or.inl ⟨by rfl, ?_⟩) hJ ?_
    rotate_left 1
    · intro w9 hSw; (try dsimp only at hSw); first | (go_simp; done) | (go_simp; with_reducible rfl)
    try simp only [Act.put, List.setIfInBounds_toArray, List.set_cons_zero, List.set_cons_succ]
    refine wpAnyH_take (i := 21) (oi := { dst := some 117, op := Go.Op.move (Go.Operand.tmp 116), type := 4, pos := "law.go:42", after := #[{ on := 20, ground := Go.Ground.data }, { on := 12, ground := Go.Ground.chain }], guard := none }) (v := ?_) rfl (by kernel_rfl) (by kernel_rfl) (by kernel_rfl) (fun _ _ _ h => h) (Or.inl ⟨by rfl, ?_⟩) hJ ?_
    rotate_left 1
    · intro w9 hSw; (try dsimp only at hSw); first | (go_simp; done) | (go_simp; with_reducible rfl)
    try simp only [Act.put, List.setIfInBounds_toArray, List.set_cons_zero, List.set_cons_succ]
    refine wpAnyH_take (i := 22) (oi := { dst := some 118, op := Go.Op.move (Go.Operand.tmp 14), type := 4, pos := "law.go:42", after := #[{ on := 21, ground := Go.Ground.guard }], guard := some (21, true) }) (v := ?_) rfl (by kernel_rfl) (by kernel_rfl) (by kernel_rfl) (fun _ _ _ h => h) (Or.inl ⟨by rfl, ?_⟩) hJ ?_
    rotate_left 1
    · intro w9 hSw; (try dsimp only at hSw); first | (go_simp; done) | (go_simp; with_reducible rfl)
    try simp only [Act.put, List.setIfInBounds_toArray, List.set_cons_zero, List.set_cons_succ]
    refine wpAnyH_take (i := 23) (oi := { dst := some 119, op := Go.Op.pick (Go.Operand.tmp 117) (Go.Operand.tmp 118) (Go.Operand.const (Go.Value.bool false)), type := 4, pos := "law.go:42", after := #[{ on := 21, ground := Go.Ground.data }, { on := 22, ground := Go.Ground.data }], guard := none }) (v := ?_) rfl (by kernel_rfl) (by kernel_rfl) (by kernel_rfl) (fun _ _ _ h => h) (Or.inl ⟨by rfl, ?_⟩) hJ ?_
    rotate_left 1
    · intro w9 hSw; (try dsimp only at hSw); first | (go_simp; done) | (go_simp; with_reducible rfl)
    try simp only [Act.put, List.setIfInBounds_toArray, List.set_cons_zero, List.set_cons_succ]
    refine wpAnyH_take (i := 24) (oi := { dst := some 120, op := Go.Op.move (Go.Operand.tmp 119), type := 4, pos := "law.go:42", after := #[{ on := 23, ground := Go.Ground.data }, { on := 21, ground := Go.Ground.chain }], guard := none }) (v := ?_) rfl (by kernel_rfl) (by kernel_rfl) (by kernel_rfl) (fun _ _ _ h => h) (Or.inl ⟨by rfl, ?_⟩) hJ ?_
    rotate_left 1
    · intro w9 hSw; (try dsimp only at hSw); first | (go_simp; done) | (go_simp; with_reducible rfl)
    try simp only [Act.put, List.setIfInBounds_toArray, List.set_cons_zero, List.set_cons_succ]
    refine wpAnyH_take (i := 25) (oi := { dst := some 121, op := Go.Op.move (Go.Operand.tmp 16), type := 4, pos := "law.go:42", after := #[{ on := 24, ground := Go.Ground.guard }], guard := some (24, true) }) (v := ?_) rfl (by kernel_rfl) (by kernel_rfl) (by kernel_rfl) (fun _ _ _ h => h) (Or.inl ⟨by rfl, ?_⟩) hJ ?_
    rotate_left 1
    · intro w9 hSw; (try dsimp only at hSw); first | (go_simp; done) | (go_simp; with_reducible rfl)
    try simp only [Act.put, List.setIfInBounds_toArray, List.set_cons_zero, List.set_cons_succ]
    refine wpAnyH_take (i := 26) (oi := { dst := some 122, op := Go.Op.unOp Go.UnOp.not 4 (Go.Operand.tmp 121), type := 4, pos := "law.go:42", after := #[{ on := 25, ground := Go.Ground.data }, { on := 24, ground := Go.Ground.guard }], guard := some (24, true) }) (v := ?_) rfl (by kernel_rfl) (by kernel_rfl) (by kernel_rfl) (fun _ _ _ h => h) (Or.inl ⟨by rfl, ?_⟩) hJ ?_
    rotate_left 1
    · intro w9 hSw; (try dsimp only at hSw); first | (go_simp; done) | (go_simp; with_reducible rfl)
    try simp only [Act.put, List.setIfInBounds_toArray, List.set_cons_zero, List.set_cons_succ]
    refine wpAnyH_take (i := 27) (oi := { dst := some 123, op := Go.Op.pick (Go.Operand.tmp 120) (Go.Operand.tmp 122) (Go.Operand.const (Go.Value.bool false)), type := 4, pos := "law.go:42", after := #[{ on := 24, ground := Go.Ground.data }, { on := 26, ground := Go.Ground.data }], guard := none }) (v := ?_) rfl (by kernel_rfl) (by kernel_rfl) (by kernel_rfl) (fun _ _ _ h => h) (Or.inl ⟨by rfl, ?_⟩) hJ ?_
    rotate_left 1
    · intro w9 hSw; (try dsimp only at hSw); first | (go_simp; done) | (go_simp; with_reducible rfl)
    try simp only [Act.put, List.setIfInBounds_toArray, List.set_cons_zero, List.set_cons_succ]
    refine wpAnyH_take (i := 28) (oi := { dst := some 4, op := Go.Op.assign (Go.Operand.tmp 123), type := 4, pos := "law.go:42", after := #[{ on := 27, ground := Go.Ground.data }, { on := 24, ground := Go.Ground.chain }, { on := 0, ground := Go.Ground.phase }, { on := 1, ground := Go.Ground.phase }, { on := 2, ground := Go.Ground.phase }, { on := 3, ground := Go.Ground.phase }, { on := 4, ground := Go.Ground.phase }, { on := 5, ground := Go.Ground.phase }, { on := 6, ground := Go.Ground.phase }, { on := 7, ground := Go.Ground.phase }, { on := 8, ground := Go.Ground.phase }, { on := 9, ground := Go.Ground.phase }, { on := 10, ground := Go.Ground.phase }, { on := 11, ground := Go.Ground.phase }, { on := 12, ground := Go.Ground.phase }, { on := 13, ground := Go.Ground.phase }, { on := 14, ground := Go.Ground.phase }, { on := 15, ground := Go.Ground.phase }, { on := 16, ground := Go.Ground.phase }, { on := 17, ground := Go.Ground.phase }, { on := 18, ground := Go.Ground.phase }, { on := 19, ground := Go.Ground.phase }, { on := 20, ground := Go.Ground.phase }, { on := 21, ground := Go.Ground.phase }, { on := 22, ground := Go.Ground.phase }, { on := 23, ground := Go.Ground.phase }, { on := 24, ground := Go.Ground.phase }, { on := 25, ground := Go.Ground.phase }, { on := 26, ground := Go.Ground.phase }, { on := 27, ground := Go.Ground.phase }], guard := none }) (v := ?_) rfl (by kernel_rfl) (by kernel_rfl) (by kernel_rfl) (fun _ _ _ h => h) (Or.inl ⟨by rfl, ?_⟩) hJ ?_
    rotate_left 1
    · intro w9 hSw; (try dsimp only at hSw); first | (go_simp; done) | (go_simp; with_reducible rfl)
    try simp only [Act.put, List.setIfInBounds_toArray, List.set_cons_zero, List.set_cons_succ]
    refine wpAnyH_done (by kernel_rfl) ?_ _
    refine NoPanic.normal ?_)
  all_goals (
    go_wp2_with fail
    go_ret
    exact ⟨rfl, hBz ▸ (Kf.out.trans (Kg.out.drewN q)).toBelow (by simp)⟩)
theorem ParamAnswers_law (cs : Array Value) (x : Option Addr) (len cap : Nat) (w : World) (hz : cs.size = 5) (h : ∃ n, Fits Try.prog w n 24 (Value.agg cs).cells.toList) (hg : ∃ n, Fits Try.prog w n 25 [.slice x len cap]) :
    Calls Try.prog 3 #[.agg cs, .slice x len cap] w fun e w' => e = .returned (.bool true) ∧ Below w.heap.size w w' := by
  obtain ⟨n, h⟩ := h
  obtain ⟨n2, hg⟩ := hg
  obtain ⟨a, b, c, d, e, eq, wa, _, _, _, we⟩ := param_cells h
  obtain ⟨cl⟩ := cs
  obtain rfl : cl = _ := eq
  obtain ⟨l, rfl, hb, hl, hw⟩ := bytes_of_fits hg
  exact ParamAnswers_walk a b c d e _ l w hb (by_of hw) (u32_lo wa) (u32_lo we)
end Go.Proofs.Ytcnlomknmhgpbab.S09

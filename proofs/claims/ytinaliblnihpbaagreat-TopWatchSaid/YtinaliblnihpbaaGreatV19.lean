/- The walks and the plain laws of WdK, WdE, WdD, WdM. -/
import Derived.Test.YtinaliblnihpbaaGreatV17
import Derived.Test.YtinaliblnihpbaaGreatV18
set_option linter.unusedVariables false
set_option linter.unusedSimpArgs false
open Go.Lib (hid)
namespace Go.Proofs.YtinaliblnihpbaaGreat
namespace WdC
open Go Go.RowKit Gf Hp Sl Ow Rw TM BagC HostC DevC MemC ValveC EncW UEnc UDecW UnW ParW SlC
variable {G G' : Nat → Prop} {lab : Nat → Nat} {w w' : World} {a j : Nat} {b : Nat} {nh nd : Value} {mx : Int} {cv : Value} {ca : Nat} {cs : List CP} {bb : Nat} {fv : Value} {fa : Option Nat} {n : Nat} {xs : List Value} {x y : Wd}
def fenced (G : Nat → Prop) (w w1 : World) (i : Nat) : Prop := (G i ∧ i < w.heap.size) ∨ w1.heap.size ≤ i
theorem opn_fenced {w1 : World} : Opn (fenced G w w1) w1 := fun i hi => .inr hi
theorem WAt.fence {w1 : World} (h : WAt G lab w b nh nd mx cv ca cs bb fv fa n xs x) (k : Kept [] w w1) : WAt (fenced G w w1) lab w1 b nh nd mx cv ca cs bb fv fa n xs x := (h.mono (fun i hi q => .inl ⟨q, hi⟩)).nil k
theorem fenced_sub {w1 : World} (hG : Opn G w) (hw : w.heap.size ≤ w1.heap.size) (i : Nat) (h : fenced G w w1 i) : G i := h.elim (fun q => q.1) (fun q => hG i (Nat.le_trans hw q))
theorem fenced_not {w1 : World} {i : Nat} (h1 : w.heap.size ≤ i) (h2 : i < w1.heap.size) : ¬ fenced G w w1 i := by rintro (⟨_, q⟩ | q) <;> omega
theorem kg_fenced {w1 w2 : World} (hG : Opn G w) (hw : w.heap.size ≤ w1.heap.size) (k : KG (fenced G w w1) w1 w2) : KG G w1 w2 := k.shed (fun i _ q => fenced_sub hG hw i q)
theorem kg_fhand {lab1 : Nat → Nat} {w1 w2 : World} (hG : Opn G w) (hw : w.heap.size ≤ w1.heap.size) (hl : ∀ i, i < w.heap.size → lab1 i = lab i) (k : KG (hand (fenced G w w1) lab1 w1 a) w1 w2) : KG (hand G lab w a) w1 w2 :=
  k.shed (fun i _ q => ⟨fenced_sub hG hw i q.1, by
    rcases Nat.lt_or_ge i w.heap.size with h | h
    · rcases q.2 with r | r
      · exact .inl (by omega)
      · exact .inr ((hl i h).symm.trans r)
    · exact .inl h⟩)
theorem NotOf.bytes {v : Value} {l : List Int} (hv : NotOf G w lab a v) (h : Bytes w v l) (k : KG (hand G lab w a) w w') : Bytes w' v l :=
  k.bytes h (fun b' off n c e hne hh => by
    obtain ⟨q1, q2⟩ := hv b' off n c e
    rcases hh.2 with r | r
    · omega
    · exact q2 ⟨hh.1, r⟩)
theorem NotOf.fence {w1 : World} {v : Value} (hv : NotOf G w lab a v) (k : Kept [] w w1) : NotOf (fenced G w w1) w1 lab a v := fun b' off m c e => by
  obtain ⟨q1, q2⟩ := hv b' off m c e
  have := k.size
  refine ⟨by omega, fun q => ?_⟩
  rcases q.1 with r | r
  · exact q2 ⟨r.1, q.2⟩
  · omega
set_option maxRecDepth 100000 in
theorem fresh2 (u : U) (hr : URange u) (hl : Law u) (vb : Value) (st : Int) (hs : Bytes w vb (UEnc.frame u)) (h1 : u.kind = 2) :
    Calls Tryz.prog 72 #[vb, .int .i64 st] w fun e w' => ∃ q, e = .returned (.bool q) ∧ Kept [] w w' := by
  have DC := hid (decode_ok u hr hl vb w hs)
  have e0 : (u.kind == 2) = true := by simp [h1]
  clear hr hl hs h1
  go_enter Tryz.func72, Tryz.ntmps72
  go_wp2_with fail
  refine DC.out.mono ?_
  rintro e w2 ⟨vd, rfl, k2, m2⟩
  obtain ⟨dp, dc, rfl⟩ := m2.shape
  have K2 := hid (k2.alloc (.cells #[.int .i64 u.kind, .int .u32 u.code, .int .u32 u.ses, .int .u32 u.num, .int .i64 u.flags, .slice dp u.data.length dc] 63))
  clear k2 m2
  unfold uval
  go_wp2_with fail
  all_goals (
    go_ret
    exact ⟨_, rfl, K2.out⟩)
set_option maxRecDepth 100000 in
theorem fresh3 (u : U) (hr : URange u) (hl : Law u) (vb : Value) (st : Int) (hs : Bytes w vb (UEnc.frame u)) (h1 : u.kind = 3) :
    Calls Tryz.prog 72 #[vb, .int .i64 st] w fun e w' => ∃ q, e = .returned (.bool q) ∧ Kept [] w w' := by
  have DC := hid (decode_ok u hr hl vb w hs)
  have e0 : (u.kind == 2) = false := by simp [h1]
  have e1 : (u.kind == 3) = true := by simp [h1]
  clear hr hl hs h1
  go_enter Tryz.func72, Tryz.ntmps72
  go_wp2_with fail
  refine DC.out.mono ?_
  rintro e w2 ⟨vd, rfl, k2, m2⟩
  obtain ⟨dp, dc, rfl⟩ := m2.shape
  have K2 := hid (k2.alloc (.cells #[.int .i64 u.kind, .int .u32 u.code, .int .u32 u.ses, .int .u32 u.num, .int .i64 u.flags, .slice dp u.data.length dc] 63))
  clear k2 m2
  unfold uval
  go_wp2_with fail
  all_goals (
    go_ret
    exact ⟨_, rfl, K2.out⟩)
set_option maxRecDepth 100000 in
theorem fresh4 (u : U) (hr : URange u) (hl : Law u) (vb : Value) (st : Int) (hs : Bytes w vb (UEnc.frame u)) (h1 : u.kind = 4) :
    Calls Tryz.prog 72 #[vb, .int .i64 st] w fun e w' => ∃ q, e = .returned (.bool q) ∧ Kept [] w w' := by
  have DC := hid (decode_ok u hr hl vb w hs)
  have e0 : (u.kind == 2) = false := by simp [h1]
  have e1 : (u.kind == 3) = false := by simp [h1]
  have e2 : (u.kind == 4) = true := by simp [h1]
  clear hr hl hs h1
  go_enter Tryz.func72, Tryz.ntmps72
  go_wp2_with fail
  refine DC.out.mono ?_
  rintro e w2 ⟨vd, rfl, k2, m2⟩
  obtain ⟨dp, dc, rfl⟩ := m2.shape
  have K2 := hid (k2.alloc (.cells #[.int .i64 u.kind, .int .u32 u.code, .int .u32 u.ses, .int .u32 u.num, .int .i64 u.flags, .slice dp u.data.length dc] 63))
  clear k2 m2
  unfold uval
  go_wp2_with fail
  all_goals (
    go_ret
    exact ⟨_, rfl, K2.out⟩)
set_option maxRecDepth 100000 in
theorem fresh0 (u : U) (hr : URange u) (hl : Law u) (vb : Value) (st : Int) (hs : Bytes w vb (UEnc.frame u)) (h1 : u.kind ≠ 2) (h2 : u.kind ≠ 3) (h3 : u.kind ≠ 4) :
    Calls Tryz.prog 72 #[vb, .int .i64 st] w fun e w' => ∃ q, e = .returned (.bool q) ∧ Kept [] w w' := by
  have DC := hid (decode_ok u hr hl vb w hs)
  have e0 : (u.kind == 2) = false := by simp [h1]
  have e1 : (u.kind == 3) = false := by simp [h2]
  have e2 : (u.kind == 4) = false := by simp [h3]
  clear hr hl hs h1 h2 h3
  go_enter Tryz.func72, Tryz.ntmps72
  go_wp2_with fail
  refine DC.out.mono ?_
  rintro e w2 ⟨vd, rfl, k2, m2⟩
  obtain ⟨dp, dc, rfl⟩ := m2.shape
  have K2 := hid (k2.alloc (.cells #[.int .i64 u.kind, .int .u32 u.code, .int .u32 u.ses, .int .u32 u.num, .int .i64 u.flags, .slice dp u.data.length dc] 63))
  clear k2 m2
  unfold uval
  go_wp2_with fail
  all_goals (
    go_ret
    exact ⟨_, rfl, K2.out⟩)
theorem fresh_call (u : U) (hr : URange u) (hl : Law u) (vb : Value) (st : Int) (hs : Bytes w vb (UEnc.frame u)) :
    Calls Tryz.prog 72 #[vb, .int .i64 st] w fun e w' => ∃ q, e = .returned (.bool q) ∧ Kept [] w w' := by
  by_cases h1 : u.kind = 2
  · exact fresh2 u hr hl vb st hs h1
  by_cases h2 : u.kind = 3
  · exact fresh3 u hr hl vb st hs h2
  by_cases h3 : u.kind = 4
  · exact fresh4 u hr hl vb st hs h3
  exact fresh0 u hr hl vb st hs h1 h2 h3
set_option maxRecDepth 100000 in
theorem takenF_call (mv : Mv) (mp : Option Addr) (ml mc : Nat) (vb : Value) :
    Calls Tryz.prog 69 #[.pointer (some ⟨b, 0, none⟩), mvV mv mp ml mc, vb, .bool false] w fun e w' => e = .returned (.tuple #[]) ∧ Kept [] w w' := by
  unfold mvV
  go_enter Tryz.func69, Tryz.ntmps69
  go_wp2_with fail
  (first | go_end0 | ((try simp only [Exit.inBlock, Exit.then]); refine bodyPost_ret (results_none rfl _ _ _) rfl ?_))
  exact ⟨rfl, (Kept.refl [] w).alloc _⟩
set_option maxRecDepth 100000 in
set_option maxHeartbeats 1600000 in
theorem taken4 (hG : Opn G w) (h : WAt G lab w b nh nd mx cv ca cs bb fv fa n xs x) (hn : n + 1 ≤ 1000000) (mv : Mv) (mp : Option Addr) (ml mc : Nat) (u : U) (hr : URange u) (hl : Law u) (vb : Value) (hs : Bytes w vb (UEnc.frame u)) (hv : NotOf G w lab 0 vb) (h1 : u.kind = 4) :
    Calls Tryz.prog 69 #[.pointer (some ⟨b, 0, none⟩), mvV mv mp ml mc, vb, .bool true] w fun e w' => e = .returned (.tuple #[]) ∧ ∃ n', n' ≤ n + 2 ∧ Noted G lab w w' b nh nd mx cv ca cs bb n' x := by
  have HH := hid h
  have HG := hid hG
  have HN := hid hn
  have HR := hid hr
  have HL := hid hl
  have KA := hid ((Kept.refl [] w).alloc (.cells #[.int .i64 mv.kind, .int .i64 mv.conn, .int .i64 mv.side, .int .i64 mv.frame, .int .i64 mv.at', .int .u32 mv.word, .int .i64 mv.n, .bool mv.hold, .slice mp ml mc] 38))
  have MA := hid (Has.new w 38 [.int .i64 mv.kind, .int .i64 mv.conn, .int .i64 mv.side, .int .i64 mv.frame, .int .i64 mv.at', .int .u32 mv.word, .int .i64 mv.n, .bool mv.hold, .slice mp ml mc])
  have BA := hid (hs.kept KA.out (by simp))
  have VA := hid (hv.fence KA.out)
  have e0 : (u.kind == 4) = true := by simp [h1]
  clear h hG hn hr hl hs hv h1
  unfold mvV
  go_enter Tryz.func69, Tryz.ntmps69
  go_wp2_with fail
  generalize w.alloc (.cells #[.int .i64 mv.kind, .int .i64 mv.conn, .int .i64 mv.side, .int .i64 mv.frame, .int .i64 mv.at', .int .u32 mv.word, .int .i64 mv.n, .bool mv.hold, .slice mp ml mc] 38) = wa at KA MA BA VA ⊢
  obtain ⟨R, hR⟩ : ∃ R, R = w.heap.size := ⟨_, rfl⟩
  rw [← hR] at MA ⊢
  have RR := hid (Nat.le_of_eq hR.symm)
  clear hR
  have N1 := hid (note_call2 opn_fenced (HH.out.fence KA.out) (by have := HN.out; omega) 4 mv.conn mv.side 0 0 false 0 none 0 0)
  unfold fval at N1
  refine N1.out.mono ?_
  rintro e w2 ⟨rfl, k1, lab1, fv1, fa1, xs1, hl1, h1⟩
  have M1 := hid (k1.has MA.out (fun q => fenced_not RR.out MA.out.lt q.1))
  have B1 := hid (NotOf.bytes VA.out BA.out k1)
  have K1 := hid ((KG.nil KA.out).trans (kg_fhand HG.out KA.out.size (fun _ _ => rfl) k1))
  have H1 := hid (h1.mono (G' := G) (fun i _ q => fenced_sub HG.out KA.out.size i q))
  have L1 := hid hl1
  have KS := hid k1.size
  clear k1 h1 hl1 N1
  go_wp2_with fail
  refine (decode_ok u HR.out HL.out vb w2 B1.out).mono ?_
  rintro e w3 ⟨vd, rfl, k2, m2⟩
  obtain ⟨dp, dc, rfl⟩ := m2.shape
  have K3 := hid (k2.alloc (.cells #[.int .i64 u.kind, .int .u32 u.code, .int .u32 u.ses, .int .u32 u.num, .int .i64 u.flags, .slice dp u.data.length dc] 63))
  have U3 := hid (Has.new w3 63 [.int .i64 u.kind, .int .u32 u.code, .int .u32 u.ses, .int .u32 u.num, .int .i64 u.flags, .slice dp u.data.length dc])
  have M3 := hid (k2.has M1.out (by simp))
  clear k2 m2
  have y1 := M3.out.cell 1 rfl
  have y2 := M3.out.cell 2 rfl
  have y3 := M3.out.lt
  unfold uval
  go_wp2_with fail
  generalize w3.alloc (.cells #[.int .i64 u.kind, .int .u32 u.code, .int .u32 u.ses, .int .u32 u.num, .int .i64 u.flags, .slice dp u.data.length dc] 63) = w4 at K3 U3 ⊢
  have N2 := hid (note_call2 opn_fenced (H1.out.fence K3.out) HN.out 2 mv.conn mv.side u.ses u.num false 0 dp u.data.length dc)
  unfold fval at N2
  clear y1 y2 y3
  refine N2.out.mono ?_
  rintro e w5 ⟨rfl, k5, lab5, fv5, fa5, xs5, hl5, h5⟩
  have HG2 := HG.out.kg K1.out
  have q5 := kg_fhand (lab := lab1) HG2 K3.out.size (fun _ _ => rfl) k5
  have K5 := hid ((K1.out.trans (.nil K3.out)).trans (q5.shed (G' := hand G lab w 0) (fun i _ q => ⟨q.1, by
    have z1 := KA.out.size
    have z2 := KS.out
    rcases Nat.lt_or_ge i w.heap.size with h | h
    · rcases q.2 with r | r
      · omega
      · exact .inr ((L1.out i (by omega)).symm.trans r)
    · exact .inl h⟩)))
  have H5 := hid (h5.mono (G' := G) (fun i _ q => fenced_sub HG2 K3.out.size i q))
  have L5 := hid (show ∀ i, i < w.heap.size → lab5 i = lab i from fun i hi => (hl5 i (Nat.lt_of_lt_of_le hi (Nat.le_trans KA.out.size (Nat.le_trans KS.out K3.out.size)))).trans (L1.out i (Nat.lt_of_lt_of_le hi KA.out.size)))
  clear k5 h5 hl5
  go_wp2_with fail
  (first | go_end0 | ((try simp only [Exit.inBlock, Exit.then]); refine bodyPost_ret (results_none rfl _ _ _) rfl ?_))
  exact ⟨rfl, n + 2, Nat.le_refl _, K5.out, lab5, _, _, _, L5.out, H5.out⟩
set_option maxRecDepth 100000 in
set_option maxHeartbeats 1600000 in
theorem taken20 (hG : Opn G w) (h : WAt G lab w b nh nd mx cv ca cs bb fv fa n xs x) (hn : n + 1 ≤ 1000000) (mv : Mv) (mp : Option Addr) (ml mc : Nat) (u : U) (hr : URange u) (hl : Law u) (vb : Value) (hs : Bytes w vb (UEnc.frame u)) (hv : NotOf G w lab 0 vb) (h1 : u.kind = 20) :
    Calls Tryz.prog 69 #[.pointer (some ⟨b, 0, none⟩), mvV mv mp ml mc, vb, .bool true] w fun e w' => e = .returned (.tuple #[]) ∧ ∃ n', n' ≤ n + 2 ∧ Noted G lab w w' b nh nd mx cv ca cs bb n' x := by
  have HH := hid h
  have HG := hid hG
  have HN := hid hn
  have HR := hid hr
  have HL := hid hl
  have KA := hid ((Kept.refl [] w).alloc (.cells #[.int .i64 mv.kind, .int .i64 mv.conn, .int .i64 mv.side, .int .i64 mv.frame, .int .i64 mv.at', .int .u32 mv.word, .int .i64 mv.n, .bool mv.hold, .slice mp ml mc] 38))
  have MA := hid (Has.new w 38 [.int .i64 mv.kind, .int .i64 mv.conn, .int .i64 mv.side, .int .i64 mv.frame, .int .i64 mv.at', .int .u32 mv.word, .int .i64 mv.n, .bool mv.hold, .slice mp ml mc])
  have BA := hid (hs.kept KA.out (by simp))
  have VA := hid (hv.fence KA.out)
  have e0 : (u.kind == 4) = false := by simp [h1]
  have e1 : (u.kind == 20) = true := by simp [h1]
  clear h hG hn hr hl hs hv h1
  unfold mvV
  go_enter Tryz.func69, Tryz.ntmps69
  go_wp2_with fail
  generalize w.alloc (.cells #[.int .i64 mv.kind, .int .i64 mv.conn, .int .i64 mv.side, .int .i64 mv.frame, .int .i64 mv.at', .int .u32 mv.word, .int .i64 mv.n, .bool mv.hold, .slice mp ml mc] 38) = wa at KA MA BA VA ⊢
  obtain ⟨R, hR⟩ : ∃ R, R = w.heap.size := ⟨_, rfl⟩
  rw [← hR] at MA ⊢
  have RR := hid (Nat.le_of_eq hR.symm)
  clear hR
  have N1 := hid (note_call2 opn_fenced (HH.out.fence KA.out) (by have := HN.out; omega) 4 mv.conn mv.side 0 0 false 0 none 0 0)
  unfold fval at N1
  refine N1.out.mono ?_
  rintro e w2 ⟨rfl, k1, lab1, fv1, fa1, xs1, hl1, h1⟩
  have M1 := hid (k1.has MA.out (fun q => fenced_not RR.out MA.out.lt q.1))
  have B1 := hid (NotOf.bytes VA.out BA.out k1)
  have K1 := hid ((KG.nil KA.out).trans (kg_fhand HG.out KA.out.size (fun _ _ => rfl) k1))
  have H1 := hid (h1.mono (G' := G) (fun i _ q => fenced_sub HG.out KA.out.size i q))
  have L1 := hid hl1
  have KS := hid k1.size
  clear k1 h1 hl1 N1
  go_wp2_with fail
  refine (decode_ok u HR.out HL.out vb w2 B1.out).mono ?_
  rintro e w3 ⟨vd, rfl, k2, m2⟩
  obtain ⟨dp, dc, rfl⟩ := m2.shape
  have K3 := hid (k2.alloc (.cells #[.int .i64 u.kind, .int .u32 u.code, .int .u32 u.ses, .int .u32 u.num, .int .i64 u.flags, .slice dp u.data.length dc] 63))
  have U3 := hid (Has.new w3 63 [.int .i64 u.kind, .int .u32 u.code, .int .u32 u.ses, .int .u32 u.num, .int .i64 u.flags, .slice dp u.data.length dc])
  have M3 := hid (k2.has M1.out (by simp))
  clear k2 m2
  have y1 := M3.out.cell 1 rfl
  have y2 := M3.out.cell 2 rfl
  have y3 := M3.out.lt
  unfold uval
  go_wp2_with fail
  generalize w3.alloc (.cells #[.int .i64 u.kind, .int .u32 u.code, .int .u32 u.ses, .int .u32 u.num, .int .i64 u.flags, .slice dp u.data.length dc] 63) = w4 at K3 U3 ⊢
  have N2 := hid (note_call2 opn_fenced (H1.out.fence K3.out) HN.out 2 mv.conn mv.side u.ses u.num false 0 dp u.data.length dc)
  unfold fval at N2
  clear y1 y2 y3
  refine N2.out.mono ?_
  rintro e w5 ⟨rfl, k5, lab5, fv5, fa5, xs5, hl5, h5⟩
  have HG2 := HG.out.kg K1.out
  have q5 := kg_fhand (lab := lab1) HG2 K3.out.size (fun _ _ => rfl) k5
  have K5 := hid ((K1.out.trans (.nil K3.out)).trans (q5.shed (G' := hand G lab w 0) (fun i _ q => ⟨q.1, by
    have z1 := KA.out.size
    have z2 := KS.out
    rcases Nat.lt_or_ge i w.heap.size with h | h
    · rcases q.2 with r | r
      · omega
      · exact .inr ((L1.out i (by omega)).symm.trans r)
    · exact .inl h⟩)))
  have H5 := hid (h5.mono (G' := G) (fun i _ q => fenced_sub HG2 K3.out.size i q))
  have L5 := hid (show ∀ i, i < w.heap.size → lab5 i = lab i from fun i hi => (hl5 i (Nat.lt_of_lt_of_le hi (Nat.le_trans KA.out.size (Nat.le_trans KS.out K3.out.size)))).trans (L1.out i (Nat.lt_of_lt_of_le hi KA.out.size)))
  clear k5 h5 hl5
  go_wp2_with fail
  (first | go_end0 | ((try simp only [Exit.inBlock, Exit.then]); refine bodyPost_ret (results_none rfl _ _ _) rfl ?_))
  exact ⟨rfl, n + 2, Nat.le_refl _, K5.out, lab5, _, _, _, L5.out, H5.out⟩
set_option maxRecDepth 100000 in
set_option maxHeartbeats 1600000 in
theorem taken0 (hG : Opn G w) (h : WAt G lab w b nh nd mx cv ca cs bb fv fa n xs x) (hn : n + 1 ≤ 1000000) (mv : Mv) (mp : Option Addr) (ml mc : Nat) (u : U) (hr : URange u) (hl : Law u) (vb : Value) (hs : Bytes w vb (UEnc.frame u)) (hv : NotOf G w lab 0 vb) (h1 : u.kind ≠ 4) (h2 : u.kind ≠ 20) :
    Calls Tryz.prog 69 #[.pointer (some ⟨b, 0, none⟩), mvV mv mp ml mc, vb, .bool true] w fun e w' => e = .returned (.tuple #[]) ∧ ∃ n', n' ≤ n + 2 ∧ Noted G lab w w' b nh nd mx cv ca cs bb n' x := by
  have HH := hid h
  have HG := hid hG
  have HN := hid hn
  have HR := hid hr
  have HL := hid hl
  have KA := hid ((Kept.refl [] w).alloc (.cells #[.int .i64 mv.kind, .int .i64 mv.conn, .int .i64 mv.side, .int .i64 mv.frame, .int .i64 mv.at', .int .u32 mv.word, .int .i64 mv.n, .bool mv.hold, .slice mp ml mc] 38))
  have MA := hid (Has.new w 38 [.int .i64 mv.kind, .int .i64 mv.conn, .int .i64 mv.side, .int .i64 mv.frame, .int .i64 mv.at', .int .u32 mv.word, .int .i64 mv.n, .bool mv.hold, .slice mp ml mc])
  have BA := hid (hs.kept KA.out (by simp))
  have VA := hid (hv.fence KA.out)
  have e0 : (u.kind == 4) = false := by simp [h1]
  have e1 : (u.kind == 20) = false := by simp [h2]
  clear h hG hn hr hl hs hv h1 h2
  unfold mvV
  go_enter Tryz.func69, Tryz.ntmps69
  go_wp2_with fail
  generalize w.alloc (.cells #[.int .i64 mv.kind, .int .i64 mv.conn, .int .i64 mv.side, .int .i64 mv.frame, .int .i64 mv.at', .int .u32 mv.word, .int .i64 mv.n, .bool mv.hold, .slice mp ml mc] 38) = wa at KA MA BA VA ⊢
  obtain ⟨R, hR⟩ : ∃ R, R = w.heap.size := ⟨_, rfl⟩
  rw [← hR] at MA ⊢
  have RR := hid (Nat.le_of_eq hR.symm)
  clear hR
  have N1 := hid (note_call2 opn_fenced (HH.out.fence KA.out) (by have := HN.out; omega) 4 mv.conn mv.side 0 0 false 0 none 0 0)
  unfold fval at N1
  refine N1.out.mono ?_
  rintro e w2 ⟨rfl, k1, lab1, fv1, fa1, xs1, hl1, h1⟩
  have M1 := hid (k1.has MA.out (fun q => fenced_not RR.out MA.out.lt q.1))
  have B1 := hid (NotOf.bytes VA.out BA.out k1)
  have K1 := hid ((KG.nil KA.out).trans (kg_fhand HG.out KA.out.size (fun _ _ => rfl) k1))
  have H1 := hid (h1.mono (G' := G) (fun i _ q => fenced_sub HG.out KA.out.size i q))
  have L1 := hid hl1
  have KS := hid k1.size
  clear k1 h1 hl1 N1
  go_wp2_with fail
  refine (decode_ok u HR.out HL.out vb w2 B1.out).mono ?_
  rintro e w3 ⟨vd, rfl, k2, m2⟩
  obtain ⟨dp, dc, rfl⟩ := m2.shape
  have K3 := hid (k2.alloc (.cells #[.int .i64 u.kind, .int .u32 u.code, .int .u32 u.ses, .int .u32 u.num, .int .i64 u.flags, .slice dp u.data.length dc] 63))
  have U3 := hid (Has.new w3 63 [.int .i64 u.kind, .int .u32 u.code, .int .u32 u.ses, .int .u32 u.num, .int .i64 u.flags, .slice dp u.data.length dc])
  have M3 := hid (k2.has M1.out (by simp))
  clear k2 m2
  have y1 := M3.out.cell 1 rfl
  have y2 := M3.out.cell 2 rfl
  have y3 := M3.out.lt
  unfold uval
  go_wp2_with fail
  (first | go_end0 | ((try simp only [Exit.inBlock, Exit.then]); refine bodyPost_ret (results_none rfl _ _ _) rfl ?_))
  exact ⟨rfl, n + 1, by omega, K1.out.trans (.nil K3.out), lab1, _, _, _, fun i hi => L1.out i (Nat.lt_of_lt_of_le hi KA.out.size), H1.out.nil K3.out⟩
theorem taken_call (q : Bool) (hG : Opn G w) (h : WAt G lab w b nh nd mx cv ca cs bb fv fa n xs x) (hn : n + 1 ≤ 1000000) (mv : Mv) (mp : Option Addr) (ml mc : Nat) (u : U) (hr : URange u) (hl : Law u) (vb : Value) (hs : Bytes w vb (UEnc.frame u)) (hv : NotOf G w lab 0 vb) :
    Calls Tryz.prog 69 #[.pointer (some ⟨b, 0, none⟩), mvV mv mp ml mc, vb, .bool q] w fun e w' => e = .returned (.tuple #[]) ∧ ∃ n', n' ≤ n + 2 ∧ Noted G lab w w' b nh nd mx cv ca cs bb n' x := by
  cases q with
  | false => exact (takenF_call mv mp ml mc vb).mono (fun e w' r => ⟨r.1, n, by omega, .nil r.2, lab, _, _, _, fun _ _ => rfl, h.nil r.2⟩)
  | true =>
    by_cases h1 : u.kind = 4
    · exact taken4 hG h hn mv mp ml mc u hr hl vb hs hv h1
    by_cases h2 : u.kind = 20
    · exact taken20 hG h hn mv mp ml mc u hr hl vb hs hv h2
    exact taken0 hG h hn mv mp ml mc u hr hl vb hs hv h1 h2
end WdC
namespace WdC
open Go Go.RowKit Gf Hp Sl Ow Rw TM BagC HostC DevC MemC ValveC EncW UEnc UDecW UnW ParW SlC
variable {G G' : Nat → Prop} {lab : Nat → Nat} {w w' : World} {a j : Nat} {b : Nat} {nh nd : Value} {mx : Int} {cv : Value} {ca : Nat} {cs : List CP} {bb : Nat} {fv : Value} {fa : Option Nat} {n : Nat} {xs : List Value} {x y : Wd}
theorem not_fhand {G1 : Nat → Prop} {lab1 : Nat → Nat} {wr wc : World} {X : Nat} (h1 : wr.heap.size ≤ X) (h2 : X < wc.heap.size) : ¬ hand (fenced G1 wr wc) lab1 wc a X := fun q => fenced_not h1 h2 q.1
theorem kg_back {lab1 : Nat → Nat} {w0 wr wa wb : World} (hl : ∀ i, i < w0.heap.size → lab1 i = lab i) (hw : w0.heap.size ≤ wr.heap.size) (k : KG (hand G lab1 wr a) wa wb) : KG (hand G lab w0 a) wa wb :=
  k.shed (fun i _ q => ⟨q.1, by
    rcases Nat.lt_or_ge i w0.heap.size with h | h
    · rcases q.2 with r | r
      · exact .inl (by omega)
      · exact .inr ((hl i h).symm.trans r)
    · exact .inl h⟩)
theorem Noted.parts (h : Noted G lab w w' b nh nd mx cv ca cs bb n x) : KG (hand G lab w 0) w w' ∧ ∃ lab' fv fa xs, (∀ i, i < w.heap.size → lab' i = lab i) ∧ WAt G lab' w' b nh nd mx cv ca cs bb fv fa n xs x := h
theorem three3 {w : World} {R : Nat} {T : TypeId} {v0 v1 v2 v3 v4 v5 v6 v7 v8 : Value} (h : Has w R T [v0, v1, v2, v3, v4, v5, v6, v7, v8]) : w.cell? ⟨R, 5, none⟩ = some v5 ∧ w.cell? ⟨R, 7, none⟩ = some v7 ∧ w.cell? ⟨R, 8, none⟩ = some v8 := ⟨h.cell 5 rfl, h.cell 7 rfl, h.cell 8 rfl⟩
def SnRel (G1 : Nat → Prop) (lab : Nat → Nat) (w0 : World) (b : Nat) (nh nd : Value) (mx : Int) (cv : Value) (ca : Nat) (cs : List CP) (bb n : Nat) (x : Wd) (i : Value) (wr : World) : Prop :=
  ∃ (j : Nat) (lab' : Nat → Nat) (fv : Value) (fa : Option Nat) (xs : List Value), j ≤ 2 ∧ i = .int .i64 (j : Nat) ∧ KG (hand G1 lab w0 0) w0 wr ∧ (∀ i, i < w0.heap.size → lab' i = lab i) ∧ WAt G1 lab' wr b nh nd mx cv ca cs bb fv fa (n + j) xs x
def rowV (mv : Mv) (mp : Option Addr) (ml mc : Nat) (code sent : Int) (h : TM.End) (hp : Option Addr) (hl hc : Nat) (d : TM.End) (dp : Option Addr) (dl dc : Nat) : Value := .agg #[.int .i64 mv.kind, .int .i64 mv.conn, .int .i64 mv.side, .int .i64 mv.frame, .int .i64 mv.at', .int .u32 mv.word, .int .i64 mv.n, .bool mv.hold, .slice mp ml mc, .int .i64 code, .int .i64 sent, .int .i64 h.state, .int .u32 h.ses, .int .u32 h.num, .int .u32 h.sent, .int .i64 h.since, .int .i64 h.latched, .bool h.request, .bool h.on, .slice hp hl hc, .int .i64 d.state, .int .u32 d.ses, .int .u32 d.num, .int .u32 d.sent, .int .i64 d.since, .int .i64 d.latched, .bool d.request, .bool d.on, .slice dp dl dc]
set_option maxRecDepth 100000 in
set_option maxHeartbeats 3200000 in
theorem seen_call (hG : Opn G w) (h0 : WAt G lab w b nh nd mx cv ca cs bb fv fa n xs x) (hn : n + 2 ≤ 1000000) (k : Int) (mv : Mv) (mp : Option Addr) (ml mc : Nat) (code sent : Int) (h : TM.End) (hp : Option Addr) (hl hc : Nat) (d : TM.End) (dp : Option Addr) (dl dc : Nat)
    (L1 L2 : List Int) (b1 : Bytes w (.slice hp hl hc) L1) (b2 : Bytes w (.slice dp dl dc) L2) (v1 : NotOf G w lab 0 (.slice hp hl hc)) (v2 : NotOf G w lab 0 (.slice dp dl dc)) (s1 : L1.length ≤ 1000) (s2 : L2.length ≤ 1000) :
    Calls Tryz.prog 45 #[.pointer (some ⟨b, 0, none⟩), .int .i64 k, rowV mv mp ml mc code sent h hp hl hc d dp dl dc] w fun e w' => e = .returned (.tuple #[]) ∧ Noted G lab w w' b nh nd mx cv ca cs bb (n + 2) x := by
  have HH := hid h0
  have HG := hid hG
  have HN := hid hn
  have B1 := hid (And.intro b1 (And.intro v1 s1))
  have B2 := hid (And.intro b2 (And.intro v2 s2))
  clear h0 hG hn b1 b2 v1 v2 s1 s2
  unfold rowV
  go_enter Tryz.func45, Tryz.ntmps45
  go_wp2_with fail
  have K0 := hid (((Kept.refl [] w).alloc (.cells #[.int .i64 mv.kind, .int .i64 mv.conn, .int .i64 mv.side, .int .i64 mv.frame, .int .i64 mv.at', .int .u32 mv.word, .int .i64 mv.n, .bool mv.hold, .slice mp ml mc, .int .i64 code, .int .i64 sent, .int .i64 h.state, .int .u32 h.ses, .int .u32 h.num, .int .u32 h.sent, .int .i64 h.since, .int .i64 h.latched, .bool h.request, .bool h.on, .slice hp hl hc, .int .i64 d.state, .int .u32 d.ses, .int .u32 d.num, .int .u32 d.sent, .int .i64 d.since, .int .i64 d.latched, .bool d.request, .bool d.on, .slice dp dl dc] 44)).alloc (.cells #[.int .i64 h.state, .int .u32 h.ses, .int .u32 h.num, .int .u32 h.sent, .int .i64 h.since, .int .i64 h.latched, .bool h.request, .bool h.on, .slice hp hl hc, .int .i64 d.state, .int .u32 d.ses, .int .u32 d.num, .int .u32 d.sent, .int .i64 d.since, .int .i64 d.latched, .bool d.request, .bool d.on, .slice dp dl dc] 42))
  have A0 := hid (Has.new (w.alloc (.cells #[.int .i64 mv.kind, .int .i64 mv.conn, .int .i64 mv.side, .int .i64 mv.frame, .int .i64 mv.at', .int .u32 mv.word, .int .i64 mv.n, .bool mv.hold, .slice mp ml mc, .int .i64 code, .int .i64 sent, .int .i64 h.state, .int .u32 h.ses, .int .u32 h.num, .int .u32 h.sent, .int .i64 h.since, .int .i64 h.latched, .bool h.request, .bool h.on, .slice hp hl hc, .int .i64 d.state, .int .u32 d.ses, .int .u32 d.num, .int .u32 d.sent, .int .i64 d.since, .int .i64 d.latched, .bool d.request, .bool d.on, .slice dp dl dc] 44)) 42 [.int .i64 h.state, .int .u32 h.ses, .int .u32 h.num, .int .u32 h.sent, .int .i64 h.since, .int .i64 h.latched, .bool h.request, .bool h.on, .slice hp hl hc, .int .i64 d.state, .int .u32 d.ses, .int .u32 d.num, .int .u32 d.sent, .int .i64 d.since, .int .i64 d.latched, .bool d.request, .bool d.on, .slice dp dl dc])
  have AZ : (w.alloc (.cells #[.int .i64 mv.kind, .int .i64 mv.conn, .int .i64 mv.side, .int .i64 mv.frame, .int .i64 mv.at', .int .u32 mv.word, .int .i64 mv.n, .bool mv.hold, .slice mp ml mc, .int .i64 code, .int .i64 sent, .int .i64 h.state, .int .u32 h.ses, .int .u32 h.num, .int .u32 h.sent, .int .i64 h.since, .int .i64 h.latched, .bool h.request, .bool h.on, .slice hp hl hc, .int .i64 d.state, .int .u32 d.ses, .int .u32 d.num, .int .u32 d.sent, .int .i64 d.since, .int .i64 d.latched, .bool d.request, .bool d.on, .slice dp dl dc] 44)).heap.size = w.heap.size + 1 := by simp
  rw [AZ] at A0
  clear AZ
  generalize ((w.alloc (.cells #[.int .i64 mv.kind, .int .i64 mv.conn, .int .i64 mv.side, .int .i64 mv.frame, .int .i64 mv.at', .int .u32 mv.word, .int .i64 mv.n, .bool mv.hold, .slice mp ml mc, .int .i64 code, .int .i64 sent, .int .i64 h.state, .int .u32 h.ses, .int .u32 h.num, .int .u32 h.sent, .int .i64 h.since, .int .i64 h.latched, .bool h.request, .bool h.on, .slice hp hl hc, .int .i64 d.state, .int .u32 d.ses, .int .u32 d.num, .int .u32 d.sent, .int .i64 d.since, .int .i64 d.latched, .bool d.request, .bool d.on, .slice dp dl dc] 44)).alloc (.cells #[.int .i64 h.state, .int .u32 h.ses, .int .u32 h.num, .int .u32 h.sent, .int .i64 h.since, .int .i64 h.latched, .bool h.request, .bool h.on, .slice hp hl hc, .int .i64 d.state, .int .u32 d.ses, .int .u32 d.num, .int .u32 d.sent, .int .i64 d.since, .int .i64 d.latched, .bool d.request, .bool d.on, .slice dp dl dc] 42)) = w0 at K0 A0 ⊢
  obtain ⟨A, hA⟩ : ∃ A, A = w.heap.size + 1 := ⟨_, rfl⟩
  rw [← hA] at A0 ⊢
  have AR := hid (show w.heap.size ≤ A by omega)
  clear hA
  have H0 := hid (HH.out.fence K0.out)
  have O0 := hid (opn_fenced (G := G) (w := w) (w1 := w0))
  have NA := hid (fenced_not (G := G) AR.out A0.out.lt)
  obtain ⟨G1, hG1⟩ : ∃ G1, G1 = fenced G w w0 := ⟨_, rfl⟩
  rw [← hG1] at H0 O0 NA
  have E1 := hid hG1
  clear hG1
  have HN1 := hid (show ∀ v l, NotOf G w lab 0 v → Bytes w v l → ∀ wr, KG (hand G1 lab w0 0) w0 wr → Bytes wr v l from fun v l hv hb wr k => k.bytes (hb.kept K0.out (by simp)) (fun b' off m c e hne hh => by
    obtain ⟨q1, q2⟩ := hv b' off m c e
    have := K0.out.size
    have g := hh.1
    rw [E1.out] at g
    rcases hh.2 with r | r
    · omega
    · rcases g with g | g
      · exact q2 ⟨g.1, r⟩
      · omega))
  go_loopw [14] (SnRel G1 lab w0 b nh nd mx cv ca cs bb n x) (fun i _ => 2 - (intOf i).toNat)
  case atStart => exact ⟨0, lab, _, _, _, by omega, rfl, KG.refl, fun _ _ => rfl, H0.out⟩
  case round =>
    obtain ⟨j, lab1, fv1, fa1, xs1, hj, rfl, kk, hl, hr⟩ := hrel
    have KK := hid kk
    have LL := hid hl
    have HR := hid hr
    have OR := hid (O0.out.kg kk)
    have AR1 := hid (kk.has A0.out (fun q => NA.out q.1))
    have hj3 : j = 0 ∨ j = 1 ∨ j = 2 := by omega
    clear kk hl hr hj
    rcases hj3 with rfl | rfl | rfl
    case inr.inr =>
      go_wp2_with fail
      go_end0
      have q := HR.out
      rw [E1.out] at q
      refine ⟨rfl, (KG.nil K0.out).trans ?_, lab1, _, _, _, fun i hi => LL.out i (Nat.lt_of_lt_of_le hi K0.out.size), q.mono (fun i _ z => fenced_sub HG.out K0.out.size i z)⟩
      have k := KK.out
      rw [E1.out] at k
      exact kg_fhand HG.out K0.out.size (fun _ _ => rfl) k
    case inl =>
      have a0 := AR1.out.cell 0 rfl
      have a1 := AR1.out.cell 1 rfl
      have a2 := AR1.out.cell 2 rfl
      have a3 := AR1.out.cell 3 rfl
      have a4 := AR1.out.cell 4 rfl
      have a5 := AR1.out.cell 5 rfl
      have a6 := AR1.out.cell 6 rfl
      have a7 := AR1.out.cell 7 rfl
      have a8 := AR1.out.cell 8 rfl
      have al := AR1.out.lt
      go_wp2_with fail
      have KX := hid ((Kept.refl [] wr).alloc (.cells #[.int .i64 h.state, .int .u32 h.ses, .int .u32 h.num, .int .u32 h.sent, .int .i64 h.since, .int .i64 h.latched, .bool h.request, .bool h.on, .slice hp hl hc] 42))
      have X0 := hid (Has.new wr 42 [.int .i64 h.state, .int .u32 h.ses, .int .u32 h.num, .int .u32 h.sent, .int .i64 h.since, .int .i64 h.latched, .bool h.request, .bool h.on, .slice hp hl hc])
      have XL : wr.heap.size = wr.heap.size := rfl
      generalize wr.alloc (.cells #[.int .i64 h.state, .int .u32 h.ses, .int .u32 h.num, .int .u32 h.sent, .int .i64 h.since, .int .i64 h.latched, .bool h.request, .bool h.on, .slice hp hl hc] 42) = wx at KX X0 ⊢
      have XN := hid (show wr.heap.size ≤ wr.heap.size from Nat.le_refl _)
      obtain ⟨X, hX⟩ : ∃ X, X = wr.heap.size := ⟨_, rfl⟩
      rw [← hX] at X0 ⊢
      have XR := hid (Nat.le_of_eq hX.symm)
      clear hX XL XN al a0 a1 a2 a3 a4 a5 a6 a7 a8
      have BR := HN1.out _ _ B1.out.2.1 B1.out.1 wr KK.out
      have CB := hid (BR.kept KX.out.drew (by simp))
      obtain ⟨sp9, sc9, es9, hsc9⟩ := sl_shape CB.out
      have CL := hid (clone_call _ L1 wx.drew CB.out (by have := B1.out.2.2; omega))
      have SK := hid (show ∀ w', Kept [] wx w' → (w'.cell? ⟨X, 5, none⟩ = some (.int .i64 h.latched) ∧ w'.cell? ⟨X, 7, none⟩ = some (.bool h.on) ∧ w'.cell? ⟨X, 8, none⟩ = some (.slice hp hl hc)) from fun w' q => ⟨(q.has X0.out (by simp)).cell 5 rfl, (q.has X0.out (by simp)).cell 7 rfl, (q.has X0.out (by simp)).cell 8 rfl⟩)
      have dd := SK.out _ ((Kept.refl [] wx).drew)
      clear es9 hsc9 BR
      go_region_held3 (fun w' => w'.cell? ⟨X, 5, none⟩ = some (.int .i64 h.latched) ∧ w'.cell? ⟨X, 7, none⟩ = some (.bool h.on) ∧ w'.cell? ⟨X, 8, none⟩ = some (.slice hp hl hc)) (with_reducible assumption) (first | (go_at_call 35; with_reducible refine CL.out.mono ?_; rintro e wc ⟨vc, rfl, kc, hc⟩; obtain ⟨pc, cc, rfl⟩ := (EncW.made_of_cloned CB.out hc).shape; have KC := hid (KX.out.drew.trans kc); have dd2 := SK.out _ (((Kept.refl [] wx).drew).trans kc); have XC := hid ((((Kept.refl [] wx).drew).trans kc).has X0.out (by simp)); have NC := hid (note_call2 opn_fenced (HR.out.fence KC.out) (by have := HN.out; omega) 8 k (IntKind.i64.wrap 1) 0 0 h.on h.latched pc L1.length cc); unfold fval at NC; clear kc hc) | (go_at_call 71; with_reducible refine NC.out.mono ?_; rintro e wn ⟨rfl, nn⟩; obtain ⟨kn, lab2, fv2, fa2, xs2, hl2, hn2⟩ := Noted.parts nn; have XX := hid (kn.has XC.out (not_fhand XR.out XC.out.lt)); have dd3 := three3 XX.out; have KN := hid kn; have HN2 := hid hn2; have LN := hid hl2; clear kn hn2 hl2))
      clear dd dd2 dd3
      go_wp2_with fail
      have k2 := kg_fhand (lab := lab1) OR.out KC.out.size (fun _ _ => rfl) KN.out
      refine ⟨⟨1, lab2, fv2, fa2, xs2, by omega, by rfl, (KK.out.trans (.nil KC.out)).trans (kg_back LL.out KK.out.size k2), fun i hi => (LN.out i (Nat.lt_of_lt_of_le hi (Nat.le_trans KK.out.size KC.out.size))).trans (LL.out i hi), HN2.out.mono (fun i _ q => fenced_sub OR.out KC.out.size i q)⟩, by simp [intOf]⟩
    case inr.inl =>
      have a0 := AR1.out.cell 9 rfl
      have a1 := AR1.out.cell 10 rfl
      have a2 := AR1.out.cell 11 rfl
      have a3 := AR1.out.cell 12 rfl
      have a4 := AR1.out.cell 13 rfl
      have a5 := AR1.out.cell 14 rfl
      have a6 := AR1.out.cell 15 rfl
      have a7 := AR1.out.cell 16 rfl
      have a8 := AR1.out.cell 17 rfl
      have al := AR1.out.lt
      go_wp2_with fail
      have KX := hid ((Kept.refl [] wr).alloc (.cells #[.int .i64 d.state, .int .u32 d.ses, .int .u32 d.num, .int .u32 d.sent, .int .i64 d.since, .int .i64 d.latched, .bool d.request, .bool d.on, .slice dp dl dc] 42))
      have X0 := hid (Has.new wr 42 [.int .i64 d.state, .int .u32 d.ses, .int .u32 d.num, .int .u32 d.sent, .int .i64 d.since, .int .i64 d.latched, .bool d.request, .bool d.on, .slice dp dl dc])
      have XL : wr.heap.size = wr.heap.size := rfl
      generalize wr.alloc (.cells #[.int .i64 d.state, .int .u32 d.ses, .int .u32 d.num, .int .u32 d.sent, .int .i64 d.since, .int .i64 d.latched, .bool d.request, .bool d.on, .slice dp dl dc] 42) = wx at KX X0 ⊢
      have XN := hid (show wr.heap.size ≤ wr.heap.size from Nat.le_refl _)
      obtain ⟨X, hX⟩ : ∃ X, X = wr.heap.size := ⟨_, rfl⟩
      rw [← hX] at X0 ⊢
      have XR := hid (Nat.le_of_eq hX.symm)
      clear hX XL XN al a0 a1 a2 a3 a4 a5 a6 a7 a8
      have BR := HN1.out _ _ B2.out.2.1 B2.out.1 wr KK.out
      have CB := hid (BR.kept KX.out.drew (by simp))
      obtain ⟨sp9, sc9, es9, hsc9⟩ := sl_shape CB.out
      have CL := hid (clone_call _ L2 wx.drew CB.out (by have := B2.out.2.2; omega))
      have SK := hid (show ∀ w', Kept [] wx w' → (w'.cell? ⟨X, 5, none⟩ = some (.int .i64 d.latched) ∧ w'.cell? ⟨X, 7, none⟩ = some (.bool d.on) ∧ w'.cell? ⟨X, 8, none⟩ = some (.slice dp dl dc)) from fun w' q => ⟨(q.has X0.out (by simp)).cell 5 rfl, (q.has X0.out (by simp)).cell 7 rfl, (q.has X0.out (by simp)).cell 8 rfl⟩)
      have dd := SK.out _ ((Kept.refl [] wx).drew)
      clear es9 hsc9 BR
      go_region_held3 (fun w' => w'.cell? ⟨X, 5, none⟩ = some (.int .i64 d.latched) ∧ w'.cell? ⟨X, 7, none⟩ = some (.bool d.on) ∧ w'.cell? ⟨X, 8, none⟩ = some (.slice dp dl dc)) (with_reducible assumption) (first | (go_at_call 35; with_reducible refine CL.out.mono ?_; rintro e wc ⟨vc, rfl, kc, hc⟩; obtain ⟨pc, cc, rfl⟩ := (EncW.made_of_cloned CB.out hc).shape; have KC := hid (KX.out.drew.trans kc); have dd2 := SK.out _ (((Kept.refl [] wx).drew).trans kc); have XC := hid ((((Kept.refl [] wx).drew).trans kc).has X0.out (by simp)); have NC := hid (note_call2 opn_fenced (HR.out.fence KC.out) (by have := HN.out; omega) 8 k (IntKind.i64.wrap 2) 0 0 d.on d.latched pc L2.length cc); unfold fval at NC; clear kc hc) | (go_at_call 71; with_reducible refine NC.out.mono ?_; rintro e wn ⟨rfl, nn⟩; obtain ⟨kn, lab2, fv2, fa2, xs2, hl2, hn2⟩ := Noted.parts nn; have XX := hid (kn.has XC.out (not_fhand XR.out XC.out.lt)); have dd3 := three3 XX.out; have KN := hid kn; have HN2 := hid hn2; have LN := hid hl2; clear kn hn2 hl2))
      clear dd dd2 dd3
      go_wp2_with fail
      have k2 := kg_fhand (lab := lab1) OR.out KC.out.size (fun _ _ => rfl) KN.out
      refine ⟨⟨2, lab2, fv2, fa2, xs2, by omega, by rfl, (KK.out.trans (.nil KC.out)).trans (kg_back LL.out KK.out.size k2), fun i hi => (LN.out i (Nat.lt_of_lt_of_le hi (Nat.le_trans KK.out.size KC.out.size))).trans (LL.out i hi), HN2.out.mono (fun i _ q => fenced_sub OR.out KC.out.size i q)⟩, by simp [intOf]⟩
end WdC
namespace WdC
open Go Go.RowKit Gf Hp Sl Ow Rw TM BagC HostC DevC MemC ValveC EncW UEnc UDecW UnW ParW SlC
variable {G G' : Nat → Prop} {lab : Nat → Nat} {w w' : World} {a j : Nat} {b : Nat} {nh nd : Value} {mx : Int} {cv : Value} {ca : Nat} {cs : List CP} {bb : Nat} {fv : Value} {fa : Option Nat} {n : Nat} {xs : List Value} {x y : Wd}
def Away (G : Nat → Prop) (w : World) (v : Value) : Prop := ∀ b' off n c, v = .slice (some ⟨b', off, none⟩) n c → b' < w.heap.size ∧ ¬ G b'
theorem Away.bytes {v : Value} {l : List Int} (hv : Away G w v) (h : Bytes w v l) (k : KG G w w') : Bytes w' v l := k.bytes h (fun b' off n c e _ hh => (hv b' off n c e).2 hh)
theorem Away.fence {w1 : World} {v : Value} (hv : Away G w v) (k : Kept [] w w1) : Away (fenced G w w1) w1 v := fun b' off m c e => by
  obtain ⟨q1, q2⟩ := hv b' off m c e
  have := k.size
  refine ⟨by omega, ?_⟩
  rintro (r | r)
  · exact q2 r.1
  · omega
theorem Away.step {v : Value} (hv : Away G w v) (k : w.heap.size ≤ w'.heap.size) : Away G w' v := fun b' off m c e => ⟨Nat.lt_of_lt_of_le (hv b' off m c e).1 k, (hv b' off m c e).2⟩
theorem WF.mono {m : Nat} (h : WF G w b nh nd mx cv ca cs bb m x) (hG : ∀ i, i < w.heap.size → G i → G' i) : WF G' w b nh nd mx cv ca cs bb m x := by
  obtain ⟨lab, fv, fa, xs, h⟩ := h; exact ⟨lab, fv, fa, xs, h.mono hG⟩
theorem Away.notOf {v : Value} (hv : Away G w v) (lab : Nat → Nat) (a : Nat) : NotOf G w lab a v := fun b' off m c e => ⟨(hv b' off m c e).1, fun q => (hv b' off m c e).2 q.1⟩
theorem not_fhand' {lab1 : Nat → Nat} {w1 : World} {X : Nat} (h1 : w.heap.size ≤ X) (h2 : X < w1.heap.size) : ¬ hand (fenced G w w1) lab1 w1 a X := fun q => fenced_not h1 h2 q.1
set_option maxRecDepth 100000 in
set_option maxHeartbeats 1600000 in
theorem delivHy {k : Nat} {p : CP} (hG : Opn G w) (h : WAt G lab w b nh nd mx cv ca cs bb fv fa n xs x) (hp : cs[k]? = some p) (hn : n + 3 ≤ 1000000) (mv : Mv) (dp : Option Addr) (dl dc : Nat) (hk : mv.conn = (k : Int)) (u : U) (hr : URange u) (hl : Law u) (vb : Value) (hs : Bytes w vb (UEnc.frame u)) (hv : Away G w vb) (h2 : mv.side = 1) (hx : HOk (x.cn k).h) (hr0 : ((x.cn k).h.receive (sigB (x.cn k).h.p) u 0).2 = 0) :
    Calls Tryz.prog 39 #[.pointer (some ⟨b, 0, none⟩), mvV mv dp dl dc, vb] w fun e w' => e = .returned (.tuple #[.int .i64 (-1), .int .i64 (((x.cn k).h.receive (sigB (x.cn k).h.p) u 0).2)]) ∧ KG G w w' ∧ ∃ n', n' ≤ n + 2 ∧ WF G w' b nh nd mx cv ca cs bb n' (x.setC k { x.cn k with h := ((x.cn k).h.receive (sigB (x.cn k).h.p) u 0).1 }) := by
  obtain ⟨cap, rfl, hle, hkl, _, _, _⟩ := h.at_ hp
  have HH := hid h
  have HG := hid hG
  have HP := hid hp
  have HN := hid hn
  have HS := hid hs
  have HV := hid hv
  have q3 : (k : Int) < (cs.length : Int) := by omega
  have q4 : (0 : Int) ≤ (k : Int) := by omega
  have HR := hid hr
  have HL := hid hl
  have Xh2 := hid h2
  have Xhx := hid hx
  have Xhr0 := hid hr0
  unfold mvV
  rw [hk]
  clear h hG hp hn hk hs hv hr hl h2 hx hr0
  go_enter Tryz.func39, Tryz.ntmps39
  go_wp2_with fail
  have KA := hid ((Kept.refl [] w).alloc (.cells #[.int .i64 mv.kind, .int .i64 (k : Int), .int .i64 mv.side, .int .i64 mv.frame, .int .i64 mv.at', .int .u32 mv.word, .int .i64 mv.n, .bool mv.hold, .slice dp dl dc] 38))
  have MA := hid (Has.new w 38 [.int .i64 mv.kind, .int .i64 (k : Int), .int .i64 mv.side, .int .i64 mv.frame, .int .i64 mv.at', .int .u32 mv.word, .int .i64 mv.n, .bool mv.hold, .slice dp dl dc])
  have HA := hid (HH.out.nil KA.out)
  generalize w.alloc (.cells #[.int .i64 mv.kind, .int .i64 (k : Int), .int .i64 mv.side, .int .i64 mv.frame, .int .i64 mv.at', .int .u32 mv.word, .int .i64 mv.n, .bool mv.hold, .slice dp dl dc] 38) = wa at KA MA HA ⊢
  obtain ⟨R, hR⟩ : ∃ R, R = w.heap.size := ⟨_, rfl⟩
  rw [← hR] at MA ⊢
  have RR := hid (Nat.le_of_eq hR.symm)
  clear hR
  have SK := hid (skT HA MA HP)
  have dd := SK.out _ ((Kept.refl [] wa).drew)
  have KZ := hid ((Kept.refl [] wa).alloc (.cells #[.pointer none, .pointer none, .pointer none] 92))
  have KC := hid (((Kept.refl [] wa).alloc (.cells #[.pointer (some ⟨p.h, 0, none⟩), .pointer (some ⟨p.d, 0, none⟩), .pointer (some ⟨p.m, 0, none⟩)] 92)))
  go_region_held3 (fun w' => w'.cell? ⟨b, 3, none⟩ = some (.slice (some ⟨ca, 0, none⟩) cs.length cap) ∧ w'.cell? ⟨R, 1, none⟩ = some (.int .i64 (k : Int)) ∧ w'.cell? ⟨ca, k * 3, none⟩ = some (.pointer (some ⟨p.h, 0, none⟩)) ∧ w'.cell? ⟨ca, k * 3 + 1, none⟩ = some (.pointer (some ⟨p.d, 0, none⟩)) ∧ w'.cell? ⟨ca, k * 3 + 2, none⟩ = some (.pointer (some ⟨p.m, 0, none⟩))) (first | with_reducible assumption | with_reducible exact SK.out _ KZ.out.drew | with_reducible exact SK.out _ KC.out.drew | with_reducible exact SK.out _ KC.out | go_keep) (fail)
  clear dd
  change Exit.then _ _ Exit.normal _ (wa.alloc (.cells #[.pointer (some ⟨p.h, 0, none⟩), .pointer (some ⟨p.d, 0, none⟩), .pointer (some ⟨p.m, 0, none⟩)] 92)).drew
  have CB := hid ((Has.new wa 92 [.pointer (some ⟨p.h, 0, none⟩), .pointer (some ⟨p.d, 0, none⟩), .pointer (some ⟨p.m, 0, none⟩)]).drew)
  have MB := hid (KC.out.drew.has MA.out (by simp))
  have HB := hid (HA.out.nil KC.out.drew)
  have KB := hid (KA.out.trans KC.out.drew)
  have CB : Hid (Has (wa.alloc (.cells #[.pointer (some ⟨p.h, 0, none⟩), .pointer (some ⟨p.d, 0, none⟩), .pointer (some ⟨p.m, 0, none⟩)] 92)).drew wa.heap.size 92 [.pointer (some ⟨p.h, 0, none⟩), .pointer (some ⟨p.d, 0, none⟩), .pointer (some ⟨p.m, 0, none⟩)]) := CB
  generalize (wa.alloc (.cells #[.pointer (some ⟨p.h, 0, none⟩), .pointer (some ⟨p.d, 0, none⟩), .pointer (some ⟨p.m, 0, none⟩)] 92)).drew = wb at CB MB HB KB ⊢
  obtain ⟨Z, hZ⟩ : ∃ Z, Z = wa.heap.size := ⟨_, rfl⟩
  rw [← hZ] at CB ⊢
  have ZR := hid (Nat.le_trans KA.out.size (Nat.le_of_eq hZ.symm))
  clear hZ
  obtain ⟨z0, z1, z2⟩ := three CB.out
  have m0 := MB.out.cell 0 rfl
  have m1 := MB.out.cell 1 rfl
  have m2 := MB.out.cell 2 rfl
  have m3 := MB.out.cell 3 rfl
  have m4 := MB.out.cell 4 rfl
  have m5 := MB.out.cell 5 rfl
  have m6 := MB.out.cell 6 rfl
  have m7 := MB.out.cell 7 rfl
  have m8 := MB.out.cell 8 rfl
  have bz := CB.out.lt
  have br := MB.out.lt
  have e2 : (mv.side == 1) = true := by have := Xh2.out; simp [this]
  have HF := hid (HH.out.fence KB.out)
  have SF := hid (HV.out.fence KB.out)
  have BF := hid (HS.out.kept KB.out (by simp))
  have RC := hid (host_receive (opn_hand (lab := lab) (a := 2 + 2 * k) opn_fenced) ((part_host ..).pre (HF.out.host k p HP.out)) Xhx.out u HR.out HL.out vb BF.out)
  have e3 : (((x.cn k).h.receive (sigB (x.cn k).h.p) u 0).2 == 0) = true := by have := Xhr0.out; simp [this]
  go_wp2_with fail
  refine RC.out.mono ?_
  rintro e wc ⟨rfl, k1, h1⟩
  have H1 := hid (HF.out.setH HP.out k1 h1)
  have K1 := hid (kg_hand k1)
  have M1 := hid (k1.has MB.out (not_fhand' RR.out MB.out.lt))
  have B1 := hid (SF.out.bytes BF.out (kg_hand k1))
  have V1 := hid (SF.out.step k1.size)
  have O1 := hid (show Opn (fenced G w wb) wc from opn_fenced.kg k1)
  clear k1 h1 z0 z1 z2 m0 m1 m2 m3 m4 m5 m6 m7 m8 bz br
  have m0 := M1.out.cell 0 rfl
  have m1 := M1.out.cell 1 rfl
  have m2 := M1.out.cell 2 rfl
  have m3 := M1.out.cell 3 rfl
  have m4 := M1.out.cell 4 rfl
  have m5 := M1.out.cell 5 rfl
  have m6 := M1.out.cell 6 rfl
  have m7 := M1.out.cell 7 rfl
  have m8 := M1.out.cell 8 rfl
  have TC := hid (taken_call true O1.out H1.out (by have := HN.out; omega) { mv with conn := (k : Int) } dp dl dc u HR.out HL.out vb B1.out (V1.out.notOf _ 0))
  unfold mvV at TC
  go_wp2_with fail
  refine TC.out.mono ?_
  rintro e wd ⟨rfl, n2, hn2, k2⟩
  have K2 := hid (K1.out.trans k2.wf.1)
  have H2 := hid k2.wf.2
  clear k2 m0 m1 m2 m3 m4 m5 m6 m7 m8
  go_wp2_with fail
  go_ret2
  exact ⟨rfl, (KG.nil KB.out).trans (kg_fenced HG.out KB.out.size K2.out), n2, hn2, H2.out.mono (fun i _ q => fenced_sub HG.out KB.out.size i q)⟩
set_option maxRecDepth 100000 in
set_option maxHeartbeats 1600000 in
theorem delivHn {k : Nat} {p : CP} (hG : Opn G w) (h : WAt G lab w b nh nd mx cv ca cs bb fv fa n xs x) (hp : cs[k]? = some p) (hn : n + 3 ≤ 1000000) (mv : Mv) (dp : Option Addr) (dl dc : Nat) (hk : mv.conn = (k : Int)) (u : U) (hr : URange u) (hl : Law u) (vb : Value) (hs : Bytes w vb (UEnc.frame u)) (hv : Away G w vb) (h2 : mv.side = 1) (hx : HOk (x.cn k).h) (hr0 : ((x.cn k).h.receive (sigB (x.cn k).h.p) u 0).2 ≠ 0) :
    Calls Tryz.prog 39 #[.pointer (some ⟨b, 0, none⟩), mvV mv dp dl dc, vb] w fun e w' => e = .returned (.tuple #[.int .i64 (-1), .int .i64 (((x.cn k).h.receive (sigB (x.cn k).h.p) u 0).2)]) ∧ KG G w w' ∧ ∃ n', n' ≤ n + 2 ∧ WF G w' b nh nd mx cv ca cs bb n' (x.setC k { x.cn k with h := ((x.cn k).h.receive (sigB (x.cn k).h.p) u 0).1 }) := by
  obtain ⟨cap, rfl, hle, hkl, _, _, _⟩ := h.at_ hp
  have HH := hid h
  have HG := hid hG
  have HP := hid hp
  have HN := hid hn
  have HS := hid hs
  have HV := hid hv
  have q3 : (k : Int) < (cs.length : Int) := by omega
  have q4 : (0 : Int) ≤ (k : Int) := by omega
  have HR := hid hr
  have HL := hid hl
  have Xh2 := hid h2
  have Xhx := hid hx
  have Xhr0 := hid hr0
  unfold mvV
  rw [hk]
  clear h hG hp hn hk hs hv hr hl h2 hx hr0
  go_enter Tryz.func39, Tryz.ntmps39
  go_wp2_with fail
  have KA := hid ((Kept.refl [] w).alloc (.cells #[.int .i64 mv.kind, .int .i64 (k : Int), .int .i64 mv.side, .int .i64 mv.frame, .int .i64 mv.at', .int .u32 mv.word, .int .i64 mv.n, .bool mv.hold, .slice dp dl dc] 38))
  have MA := hid (Has.new w 38 [.int .i64 mv.kind, .int .i64 (k : Int), .int .i64 mv.side, .int .i64 mv.frame, .int .i64 mv.at', .int .u32 mv.word, .int .i64 mv.n, .bool mv.hold, .slice dp dl dc])
  have HA := hid (HH.out.nil KA.out)
  generalize w.alloc (.cells #[.int .i64 mv.kind, .int .i64 (k : Int), .int .i64 mv.side, .int .i64 mv.frame, .int .i64 mv.at', .int .u32 mv.word, .int .i64 mv.n, .bool mv.hold, .slice dp dl dc] 38) = wa at KA MA HA ⊢
  obtain ⟨R, hR⟩ : ∃ R, R = w.heap.size := ⟨_, rfl⟩
  rw [← hR] at MA ⊢
  have RR := hid (Nat.le_of_eq hR.symm)
  clear hR
  have SK := hid (skT HA MA HP)
  have dd := SK.out _ ((Kept.refl [] wa).drew)
  have KZ := hid ((Kept.refl [] wa).alloc (.cells #[.pointer none, .pointer none, .pointer none] 92))
  have KC := hid (((Kept.refl [] wa).alloc (.cells #[.pointer (some ⟨p.h, 0, none⟩), .pointer (some ⟨p.d, 0, none⟩), .pointer (some ⟨p.m, 0, none⟩)] 92)))
  go_region_held3 (fun w' => w'.cell? ⟨b, 3, none⟩ = some (.slice (some ⟨ca, 0, none⟩) cs.length cap) ∧ w'.cell? ⟨R, 1, none⟩ = some (.int .i64 (k : Int)) ∧ w'.cell? ⟨ca, k * 3, none⟩ = some (.pointer (some ⟨p.h, 0, none⟩)) ∧ w'.cell? ⟨ca, k * 3 + 1, none⟩ = some (.pointer (some ⟨p.d, 0, none⟩)) ∧ w'.cell? ⟨ca, k * 3 + 2, none⟩ = some (.pointer (some ⟨p.m, 0, none⟩))) (first | with_reducible assumption | with_reducible exact SK.out _ KZ.out.drew | with_reducible exact SK.out _ KC.out.drew | with_reducible exact SK.out _ KC.out | go_keep) (fail)
  clear dd
  change Exit.then _ _ Exit.normal _ (wa.alloc (.cells #[.pointer (some ⟨p.h, 0, none⟩), .pointer (some ⟨p.d, 0, none⟩), .pointer (some ⟨p.m, 0, none⟩)] 92)).drew
  have CB := hid ((Has.new wa 92 [.pointer (some ⟨p.h, 0, none⟩), .pointer (some ⟨p.d, 0, none⟩), .pointer (some ⟨p.m, 0, none⟩)]).drew)
  have MB := hid (KC.out.drew.has MA.out (by simp))
  have HB := hid (HA.out.nil KC.out.drew)
  have KB := hid (KA.out.trans KC.out.drew)
  have CB : Hid (Has (wa.alloc (.cells #[.pointer (some ⟨p.h, 0, none⟩), .pointer (some ⟨p.d, 0, none⟩), .pointer (some ⟨p.m, 0, none⟩)] 92)).drew wa.heap.size 92 [.pointer (some ⟨p.h, 0, none⟩), .pointer (some ⟨p.d, 0, none⟩), .pointer (some ⟨p.m, 0, none⟩)]) := CB
  generalize (wa.alloc (.cells #[.pointer (some ⟨p.h, 0, none⟩), .pointer (some ⟨p.d, 0, none⟩), .pointer (some ⟨p.m, 0, none⟩)] 92)).drew = wb at CB MB HB KB ⊢
  obtain ⟨Z, hZ⟩ : ∃ Z, Z = wa.heap.size := ⟨_, rfl⟩
  rw [← hZ] at CB ⊢
  have ZR := hid (Nat.le_trans KA.out.size (Nat.le_of_eq hZ.symm))
  clear hZ
  obtain ⟨z0, z1, z2⟩ := three CB.out
  have m0 := MB.out.cell 0 rfl
  have m1 := MB.out.cell 1 rfl
  have m2 := MB.out.cell 2 rfl
  have m3 := MB.out.cell 3 rfl
  have m4 := MB.out.cell 4 rfl
  have m5 := MB.out.cell 5 rfl
  have m6 := MB.out.cell 6 rfl
  have m7 := MB.out.cell 7 rfl
  have m8 := MB.out.cell 8 rfl
  have bz := CB.out.lt
  have br := MB.out.lt
  have e2 : (mv.side == 1) = true := by have := Xh2.out; simp [this]
  have HF := hid (HH.out.fence KB.out)
  have SF := hid (HV.out.fence KB.out)
  have BF := hid (HS.out.kept KB.out (by simp))
  have RC := hid (host_receive (opn_hand (lab := lab) (a := 2 + 2 * k) opn_fenced) ((part_host ..).pre (HF.out.host k p HP.out)) Xhx.out u HR.out HL.out vb BF.out)
  have e3 : (((x.cn k).h.receive (sigB (x.cn k).h.p) u 0).2 == 0) = false := by have := Xhr0.out; simp [this]
  go_wp2_with fail
  refine RC.out.mono ?_
  rintro e wc ⟨rfl, k1, h1⟩
  have H1 := hid (HF.out.setH HP.out k1 h1)
  have K1 := hid (kg_hand k1)
  have M1 := hid (k1.has MB.out (not_fhand' RR.out MB.out.lt))
  have B1 := hid (SF.out.bytes BF.out (kg_hand k1))
  have V1 := hid (SF.out.step k1.size)
  have O1 := hid (show Opn (fenced G w wb) wc from opn_fenced.kg k1)
  clear k1 h1 z0 z1 z2 m0 m1 m2 m3 m4 m5 m6 m7 m8 bz br
  go_wp2_with fail
  go_ret2
  exact ⟨rfl, (KG.nil KB.out).trans (kg_fenced HG.out KB.out.size K1.out), n, by omega, (show WF _ wc b nh nd mx _ ca cs bb n _ from ⟨_, _, _, _, H1.out⟩).mono (fun i _ q => fenced_sub HG.out KB.out.size i q)⟩
set_option maxRecDepth 100000 in
set_option maxHeartbeats 1600000 in
theorem delivHb {k : Nat} {p : CP} (hG : Opn G w) (h : WAt G lab w b nh nd mx cv ca cs bb fv fa n xs x) (hp : cs[k]? = some p) (hn : n + 3 ≤ 1000000) (mv : Mv) (dp : Option Addr) (dl dc : Nat) (hk : mv.conn = (k : Int)) (L : List Int) (vb : Value) (hs : Bytes w vb L) (hb : By L) (l1 : 19 ≤ L.length) (l2 : L.length ≤ 27) (hcr : crc L ≠ 0) (hv : Away G w vb) (h2 : mv.side = 1) (hx : HOk (x.cn k).h) :
    Calls Tryz.prog 39 #[.pointer (some ⟨b, 0, none⟩), mvV mv dp dl dc, vb] w fun e w' => e = .returned (.tuple #[.int .i64 (-1), .int .i64 (42)]) ∧ KG G w w' ∧ ∃ n', n' ≤ n + 2 ∧ WF G w' b nh nd mx cv ca cs bb n' (x.setC k { x.cn k with h := (x.cn k).h }) := by
  obtain ⟨cap, rfl, hle, hkl, _, _, _⟩ := h.at_ hp
  have HH := hid h
  have HG := hid hG
  have HP := hid hp
  have HN := hid hn
  have HS := hid hs
  have HV := hid hv
  have q3 : (k : Int) < (cs.length : Int) := by omega
  have q4 : (0 : Int) ≤ (k : Int) := by omega
  have HBY := hid (And.intro hb (And.intro l1 (And.intro l2 hcr)))
  have Xh2 := hid h2
  have Xhx := hid hx
  unfold mvV
  rw [hk]
  clear h hG hp hn hk hs hv hb l1 l2 hcr h2 hx
  go_enter Tryz.func39, Tryz.ntmps39
  go_wp2_with fail
  have KA := hid ((Kept.refl [] w).alloc (.cells #[.int .i64 mv.kind, .int .i64 (k : Int), .int .i64 mv.side, .int .i64 mv.frame, .int .i64 mv.at', .int .u32 mv.word, .int .i64 mv.n, .bool mv.hold, .slice dp dl dc] 38))
  have MA := hid (Has.new w 38 [.int .i64 mv.kind, .int .i64 (k : Int), .int .i64 mv.side, .int .i64 mv.frame, .int .i64 mv.at', .int .u32 mv.word, .int .i64 mv.n, .bool mv.hold, .slice dp dl dc])
  have HA := hid (HH.out.nil KA.out)
  generalize w.alloc (.cells #[.int .i64 mv.kind, .int .i64 (k : Int), .int .i64 mv.side, .int .i64 mv.frame, .int .i64 mv.at', .int .u32 mv.word, .int .i64 mv.n, .bool mv.hold, .slice dp dl dc] 38) = wa at KA MA HA ⊢
  obtain ⟨R, hR⟩ : ∃ R, R = w.heap.size := ⟨_, rfl⟩
  rw [← hR] at MA ⊢
  have RR := hid (Nat.le_of_eq hR.symm)
  clear hR
  have SK := hid (skT HA MA HP)
  have dd := SK.out _ ((Kept.refl [] wa).drew)
  have KZ := hid ((Kept.refl [] wa).alloc (.cells #[.pointer none, .pointer none, .pointer none] 92))
  have KC := hid (((Kept.refl [] wa).alloc (.cells #[.pointer (some ⟨p.h, 0, none⟩), .pointer (some ⟨p.d, 0, none⟩), .pointer (some ⟨p.m, 0, none⟩)] 92)))
  go_region_held3 (fun w' => w'.cell? ⟨b, 3, none⟩ = some (.slice (some ⟨ca, 0, none⟩) cs.length cap) ∧ w'.cell? ⟨R, 1, none⟩ = some (.int .i64 (k : Int)) ∧ w'.cell? ⟨ca, k * 3, none⟩ = some (.pointer (some ⟨p.h, 0, none⟩)) ∧ w'.cell? ⟨ca, k * 3 + 1, none⟩ = some (.pointer (some ⟨p.d, 0, none⟩)) ∧ w'.cell? ⟨ca, k * 3 + 2, none⟩ = some (.pointer (some ⟨p.m, 0, none⟩))) (first | with_reducible assumption | with_reducible exact SK.out _ KZ.out.drew | with_reducible exact SK.out _ KC.out.drew | with_reducible exact SK.out _ KC.out | go_keep) (fail)
  clear dd
  change Exit.then _ _ Exit.normal _ (wa.alloc (.cells #[.pointer (some ⟨p.h, 0, none⟩), .pointer (some ⟨p.d, 0, none⟩), .pointer (some ⟨p.m, 0, none⟩)] 92)).drew
  have CB := hid ((Has.new wa 92 [.pointer (some ⟨p.h, 0, none⟩), .pointer (some ⟨p.d, 0, none⟩), .pointer (some ⟨p.m, 0, none⟩)]).drew)
  have MB := hid (KC.out.drew.has MA.out (by simp))
  have HB := hid (HA.out.nil KC.out.drew)
  have KB := hid (KA.out.trans KC.out.drew)
  have CB : Hid (Has (wa.alloc (.cells #[.pointer (some ⟨p.h, 0, none⟩), .pointer (some ⟨p.d, 0, none⟩), .pointer (some ⟨p.m, 0, none⟩)] 92)).drew wa.heap.size 92 [.pointer (some ⟨p.h, 0, none⟩), .pointer (some ⟨p.d, 0, none⟩), .pointer (some ⟨p.m, 0, none⟩)]) := CB
  generalize (wa.alloc (.cells #[.pointer (some ⟨p.h, 0, none⟩), .pointer (some ⟨p.d, 0, none⟩), .pointer (some ⟨p.m, 0, none⟩)] 92)).drew = wb at CB MB HB KB ⊢
  obtain ⟨Z, hZ⟩ : ∃ Z, Z = wa.heap.size := ⟨_, rfl⟩
  rw [← hZ] at CB ⊢
  have ZR := hid (Nat.le_trans KA.out.size (Nat.le_of_eq hZ.symm))
  clear hZ
  obtain ⟨z0, z1, z2⟩ := three CB.out
  have m0 := MB.out.cell 0 rfl
  have m1 := MB.out.cell 1 rfl
  have m2 := MB.out.cell 2 rfl
  have m3 := MB.out.cell 3 rfl
  have m4 := MB.out.cell 4 rfl
  have m5 := MB.out.cell 5 rfl
  have m6 := MB.out.cell 6 rfl
  have m7 := MB.out.cell 7 rfl
  have m8 := MB.out.cell 8 rfl
  have bz := CB.out.lt
  have br := MB.out.lt
  have e2 : (mv.side == 1) = true := by have := Xh2.out; simp [this]
  have HF := hid (HH.out.fence KB.out)
  have SF := hid (HV.out.fence KB.out)
  have BF := hid (HS.out.kept KB.out (by simp))
  have RC := hid (host_bad (opn_hand (lab := lab) (a := 2 + 2 * k) opn_fenced) ((part_host ..).pre (HF.out.host k p HP.out)) Xhx.out vb L BF.out HBY.out.1 HBY.out.2.1 HBY.out.2.2.1 HBY.out.2.2.2)
  go_wp2_with fail
  refine RC.out.mono ?_
  rintro e wc ⟨rfl, k1, h1⟩
  have H1 := hid (HF.out.setH HP.out k1 h1)
  have K1 := hid (kg_hand k1)
  have M1 := hid (k1.has MB.out (not_fhand' RR.out MB.out.lt))
  have B1 := hid (SF.out.bytes BF.out (kg_hand k1))
  have V1 := hid (SF.out.step k1.size)
  have O1 := hid (show Opn (fenced G w wb) wc from opn_fenced.kg k1)
  clear k1 h1 z0 z1 z2 m0 m1 m2 m3 m4 m5 m6 m7 m8 bz br
  go_wp2_with fail
  go_ret2
  exact ⟨rfl, (KG.nil KB.out).trans (kg_fenced HG.out KB.out.size K1.out), n, by omega, (show WF _ wc b nh nd mx _ ca cs bb n _ from ⟨_, _, _, _, H1.out⟩).mono (fun i _ q => fenced_sub HG.out KB.out.size i q)⟩
end WdC
namespace WdC
open Go Go.RowKit Gf SlC Hp Sl Ow Rw TM BagC HostC DevC MemC ValveC EncW UEnc UDecW UnW ParW
variable {G G' : Nat → Prop} {lab : Nat → Nat} {w w' w1 w2 : World} {a j : Nat} {b : Nat} {nh nd : Value} {mx : Int} {cv : Value} {ca : Nat} {cs : List CP} {bb : Nat} {fv : Value} {fa : Option Nat} {n m : Nat} {xs : List Value} {x y : Wd}
theorem Noted.refl (h : WAt G lab w b nh nd mx cv ca cs bb fv fa n xs x) : Noted G lab w w b nh nd mx cv ca cs bb n x := ⟨KG.refl, lab, fv, fa, xs, fun _ _ => rfl, h⟩
theorem Noted.join {lab1 : Nat → Nat} (hl : ∀ i, i < w.heap.size → lab1 i = lab i) (k1 : KG (hand G lab w 0) w w1) (h : Noted G lab1 w1 w2 b nh nd mx cv ca cs bb m x) : Noted G lab w w2 b nh nd mx cv ca cs bb m x := by
  obtain ⟨k2, lab2, fv2, fa2, xs2, hl2, h2⟩ := h
  exact ⟨k1.trans (kg_back hl k1.size k2), lab2, fv2, fa2, xs2, fun i hi => (hl2 i (Nat.lt_of_lt_of_le hi k1.size)).trans (hl i hi), h2⟩
theorem Noted.kept (h : Noted G lab w w1 b nh nd mx cv ca cs bb n x) (k : Kept [] w1 w2) : Noted G lab w w2 b nh nd mx cv ca cs bb n x := by
  obtain ⟨k1, lab1, fv1, fa1, xs1, hl, h1⟩ := h
  exact ⟨k1.trans (.nil k), lab1, fv1, fa1, xs1, hl, h1.nil k⟩
theorem Noted.has {B : Nat} {T : TypeId} {vs : List Value} (h : Noted G lab w w1 b nh nd mx cv ca cs bb n x) (hb : Has w B T vs) (hn : ¬ G B) : Has w1 B T vs := h.1.has hb (fun q => hn q.1)
theorem Noted.bytes {v : Value} {l : List Int} (h : Noted G lab w w1 b nh nd mx cv ca cs bb n x) (hv : NotOf G w lab 0 v) (hb : Bytes w v l) : Bytes w1 v l := hv.bytes hb h.1
theorem note_more (hG : Opn G w) (h : Noted G lab w w1 b nh nd mx cv ca cs bb n x) (hn : n ≤ 1000000) (ki co si se nu : Int) (on : Bool) (cd : Int) (p : Option Addr) (l c : Nat) :
    Calls Tryz.prog 71 #[.pointer (some ⟨b, 0, none⟩), fval ki co si se nu on cd p l c] w1 fun e w2 => e = .returned (.tuple #[]) ∧ Noted G lab w w2 b nh nd mx cv ca cs bb (n + 1) x := by
  obtain ⟨k1, lab1, fv1, fa1, xs1, hl, h1⟩ := h
  exact (note_call2 (hG.kg k1) h1 hn ki co si se nu on cd p l c).mono (fun e w2 r => ⟨r.1, r.2.join hl k1⟩)
theorem NotOf.back {lab1 : Nat → Nat} {v : Value} (hv : NotOf G w lab a v) (hw : w.heap.size ≤ w1.heap.size) (hl : ∀ i, i < w.heap.size → lab1 i = lab i) : NotOf G w1 lab1 a v := fun b' off m c e => by
  obtain ⟨q1, q2⟩ := hv b' off m c e
  exact ⟨by omega, fun q => q2 ⟨q.1, (hl _ q1).symm.trans q.2⟩⟩
theorem taken_more (q : Bool) (hG : Opn G w) (h : Noted G lab w w1 b nh nd mx cv ca cs bb n x) (hn : n + 1 ≤ 1000000) (mv : Mv) (mp : Option Addr) (ml mc : Nat) (u : U) (hr : URange u) (hl : Law u) (vb : Value) (hs : Bytes w vb (UEnc.frame u)) (hv : NotOf G w lab 0 vb) :
    Calls Tryz.prog 69 #[.pointer (some ⟨b, 0, none⟩), mvV mv mp ml mc, vb, .bool q] w1 fun e w2 => e = .returned (.tuple #[]) ∧ ∃ n', n' ≤ n + 2 ∧ Noted G lab w w2 b nh nd mx cv ca cs bb n' x := by
  have hb := h.bytes hv hs
  obtain ⟨k1, lab1, fv1, fa1, xs1, hl1, h1⟩ := h
  exact (taken_call q (hG.kg k1) h1 hn mv mp ml mc u hr hl vb hb (hv.back k1.size hl1)).mono (fun e w2 ⟨r1, n', r2, r3⟩ => ⟨r1, n', r2, r3.join hl1 k1⟩)
theorem put_more (hG : Opn G w) (h : Noted G lab w w1 b nh nd mx cv ca cs bb n x) (hn : n ≤ 1000000) (u : U) (hr : URange u) (hl : Law u) (hb : x.bag.length < 4096) (vb : Value) (hs : Bytes w vb (UEnc.frame u)) (hv : NotOf G w lab 0 vb) (hv1 : NotOf G w lab 1 vb) (kk ss : Int) :
    Calls Tryz.prog 67 #[.pointer (some ⟨b, 0, none⟩), .int .i64 kk, .int .i64 ss, vb] w1 fun e w2 => e = .returned (.int .i64 (x.bag.length : Nat)) ∧ KG G w1 w2 ∧ ∃ n', n' ≤ n + 1 ∧ WF G w2 b nh nd mx cv ca cs bb n' { x with bag := x.bag ++ [u] } := by
  have hb1 := h.bytes hv hs
  obtain ⟨k1, lab1, fv1, fa1, xs1, hl1, h1⟩ := h
  exact put_call (hG.kg k1) h1 hn u hr hl hb vb hb1 (hv1.back k1.size hl1) kk ss
theorem fenced_not2 {i : Nat} (h : ¬ G i) (hi : i < w1.heap.size) : ¬ fenced G w w1 i := by
  rintro (q | q)
  · exact h q.1
  · omega
end WdC
end Go.Proofs.YtinaliblnihpbaaGreat

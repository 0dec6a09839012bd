/- The walks and the plain laws of UnW, SlM, EncW, ParW, NumW, UEnc. -/
import Derived.Test.YtinaliblnihpbaaGreatV05
import Derived.Test.YtinaliblnihpbaaGreatV02
import Derived.Maps.AppendAt
import Derived.Deep.RegionHeld3
import Derived.Deep.RegionLaw
set_option linter.unusedVariables false
set_option linter.unusedSimpArgs false
open Go.Lib (hid)
namespace Go.Proofs.YtinaliblnihpbaaGreat
namespace UnW
open Go Go.RowKit Hp Sl Gf DogC SlC Ap CrcW TM
def formV (s n d : Int) (f : Bool) : Value := .agg #[.int .i64 s, .int .i64 n, .int .i64 d, .bool f]
theorem form_call1 (w : World) : Calls Tryz.prog 154 #[.int .i64 1] w fun e w' => e = .returned (.tuple #[formV 0 0 1 false, .bool true]) ∧ Kept [] w w' := by
  go_enter Tryz.func154, Tryz.ntmps154
  go_wp2
  refine bodyPost_ret (v := .tuple #[formV 0 0 1 false, .bool true]) (by simp [results, Tryz.results154, go_sem, formV]) rfl ⟨rfl, ?_⟩
  exact (Kept.refl _ _).alloc _
theorem form_call2 (w : World) : Calls Tryz.prog 154 #[.int .i64 2] w fun e w' => e = .returned (.tuple #[formV 1 0 1 false, .bool true]) ∧ Kept [] w w' := by
  go_enter Tryz.func154, Tryz.ntmps154
  go_wp2
  refine bodyPost_ret (v := .tuple #[formV 1 0 1 false, .bool true]) (by simp [results, Tryz.results154, go_sem, formV]) rfl ⟨rfl, ?_⟩
  exact (Kept.refl _ _).alloc _
theorem form_call17 (w : World) : Calls Tryz.prog 154 #[.int .i64 17] w fun e w' => e = .returned (.tuple #[formV 1 0 1 false, .bool true]) ∧ Kept [] w w' := by
  go_enter Tryz.func154, Tryz.ntmps154
  go_wp2
  refine bodyPost_ret (v := .tuple #[formV 1 0 1 false, .bool true]) (by simp [results, Tryz.results154, go_sem, formV]) rfl ⟨rfl, ?_⟩
  exact (Kept.refl _ _).alloc _
theorem form_call3 (w : World) : Calls Tryz.prog 154 #[.int .i64 3] w fun e w' => e = .returned (.tuple #[formV 1 0 0 false, .bool true]) ∧ Kept [] w w' := by
  go_enter Tryz.func154, Tryz.ntmps154
  go_wp2
  refine bodyPost_ret (v := .tuple #[formV 1 0 0 false, .bool true]) (by simp [results, Tryz.results154, go_sem, formV]) rfl ⟨rfl, ?_⟩
  exact (Kept.refl _ _).alloc _
theorem form_call18 (w : World) : Calls Tryz.prog 154 #[.int .i64 18] w fun e w' => e = .returned (.tuple #[formV 1 0 0 false, .bool true]) ∧ Kept [] w w' := by
  go_enter Tryz.func154, Tryz.ntmps154
  go_wp2
  refine bodyPost_ret (v := .tuple #[formV 1 0 0 false, .bool true]) (by simp [results, Tryz.results154, go_sem, formV]) rfl ⟨rfl, ?_⟩
  exact (Kept.refl _ _).alloc _
theorem form_call19 (w : World) : Calls Tryz.prog 154 #[.int .i64 19] w fun e w' => e = .returned (.tuple #[formV 1 0 0 false, .bool true]) ∧ Kept [] w w' := by
  go_enter Tryz.func154, Tryz.ntmps154
  go_wp2
  refine bodyPost_ret (v := .tuple #[formV 1 0 0 false, .bool true]) (by simp [results, Tryz.results154, go_sem, formV]) rfl ⟨rfl, ?_⟩
  exact (Kept.refl _ _).alloc _
theorem form_call4 (w : World) : Calls Tryz.prog 154 #[.int .i64 4] w fun e w' => e = .returned (.tuple #[formV 1 1 2 true, .bool true]) ∧ Kept [] w w' := by
  go_enter Tryz.func154, Tryz.ntmps154
  go_wp2
  refine bodyPost_ret (v := .tuple #[formV 1 1 2 true, .bool true]) (by simp [results, Tryz.results154, go_sem, formV]) rfl ⟨rfl, ?_⟩
  exact (Kept.refl _ _).alloc _
theorem form_call20 (w : World) : Calls Tryz.prog 154 #[.int .i64 20] w fun e w' => e = .returned (.tuple #[formV 1 1 2 true, .bool true]) ∧ Kept [] w w' := by
  go_enter Tryz.func154, Tryz.ntmps154
  go_wp2
  refine bodyPost_ret (v := .tuple #[formV 1 1 2 true, .bool true]) (by simp [results, Tryz.results154, go_sem, formV]) rfl ⟨rfl, ?_⟩
  exact (Kept.refl _ _).alloc _
theorem form_call5 (w : World) : Calls Tryz.prog 154 #[.int .i64 5] w fun e w' => e = .returned (.tuple #[formV 1 1 0 false, .bool true]) ∧ Kept [] w w' := by
  go_enter Tryz.func154, Tryz.ntmps154
  go_wp2
  refine bodyPost_ret (v := .tuple #[formV 1 1 0 false, .bool true]) (by simp [results, Tryz.results154, go_sem, formV]) rfl ⟨rfl, ?_⟩
  exact (Kept.refl _ _).alloc _
theorem form_call21 (w : World) : Calls Tryz.prog 154 #[.int .i64 21] w fun e w' => e = .returned (.tuple #[formV 1 1 0 false, .bool true]) ∧ Kept [] w w' := by
  go_enter Tryz.func154, Tryz.ntmps154
  go_wp2
  refine bodyPost_ret (v := .tuple #[formV 1 1 0 false, .bool true]) (by simp [results, Tryz.results154, go_sem, formV]) rfl ⟨rfl, ?_⟩
  exact (Kept.refl _ _).alloc _
theorem form_call22 (w : World) : Calls Tryz.prog 154 #[.int .i64 22] w fun e w' => e = .returned (.tuple #[formV 2 0 0 false, .bool true]) ∧ Kept [] w w' := by
  go_enter Tryz.func154, Tryz.ntmps154
  go_wp2
  refine bodyPost_ret (v := .tuple #[formV 2 0 0 false, .bool true]) (by simp [results, Tryz.results154, go_sem, formV]) rfl ⟨rfl, ?_⟩
  exact (Kept.refl _ _).alloc _
theorem length_call (s n : Int) (d : Int) (f : Bool) (l : Nat) (hl : (d = 1 ∧ l = 4) ∨ (d = 2 ∧ 1 ≤ l ∧ l ≤ 8) ∨ (d = 0 ∧ l = 0)) (w : World) : Calls Tryz.prog 155 #[formV s n d f, .int .i64 (l : Nat)] w fun e w' => e = .returned (.bool true) ∧ Kept [] w w' := by
  unfold formV
  rcases hl with ⟨rfl, rfl⟩ | ⟨rfl, h1, h2⟩ | ⟨rfl, rfl⟩
  · go_enter Tryz.func155, Tryz.ntmps155
    go_wp2
    go_ret
    exact ⟨rfl, (Kept.refl _ _).alloc _⟩
  · have e1 : decide ((l : Int) ≥ 1) = true := by simp; omega
    have e2 : decide ((l : Int) ≤ 8) = true := by simp; omega
    go_enter Tryz.func155, Tryz.ntmps155
    go_wp2
    go_ret
    exact ⟨rfl, (Kept.refl _ _).alloc _⟩
  · go_enter Tryz.func155, Tryz.ntmps155
    go_wp2
    go_ret
    exact ⟨rfl, (Kept.refl _ _).alloc _⟩
theorem fits_call (s x : Int) (h : s = 2 ∨ (s = 1 ∧ 0 < x) ∨ (s = 0 ∧ x = 0)) (w : World) : Calls Tryz.prog 156 #[.int .i64 s, .int .u32 x] w fun e w' => e = .returned (.bool true) ∧ w' = w := by
  rcases h with rfl | ⟨rfl, hx⟩ | ⟨rfl, rfl⟩
  · go_enter Tryz.func156, Tryz.ntmps156
    go_wp2
    go_ret
    exact ⟨rfl, rfl⟩
  · have e1 : decide (x > 0) = true := by simpa using hx
    go_enter Tryz.func156, Tryz.ntmps156
    go_wp2
    go_ret
    exact ⟨rfl, rfl⟩
  · go_enter Tryz.func156, Tryz.ntmps156
    go_wp2
    go_ret
    exact ⟨rfl, rfl⟩
structure Fine (s n d : Int) (f : Bool) (u : U) : Prop where
  code : u.code ≠ 0
  len : (d = 1 ∧ u.data.length = 4) ∨ (d = 2 ∧ 1 ≤ u.data.length ∧ u.data.length ≤ 8) ∨ (d = 0 ∧ u.data.length = 0)
  ses : s = 2 ∨ (s = 1 ∧ 0 < u.ses) ∨ (s = 0 ∧ u.ses = 0)
  num : n = 2 ∨ (n = 1 ∧ 0 < u.num) ∨ (n = 0 ∧ u.num = 0)
  lo : 0 ≤ u.flags
  hi : u.flags ≤ 15
  fl : f = false → u.flags = 0
def uval (u : U) (v : Value) : Value := .agg #[.int .i64 u.kind, .int .u32 u.code, .int .u32 u.ses, .int .u32 u.num, .int .i64 u.flags, v]
def Form (k s n d : Int) (f : Bool) : Prop := ∀ w, Calls Tryz.prog 154 #[.int .i64 k] w fun e w' => e = .returned (.tuple #[formV s n d f, .bool true]) ∧ Kept [] w w'
set_option maxRecDepth 100000 in
set_option maxHeartbeats 3200000 in
theorem lawful_form (u : U) (s n d : Int) (f : Bool) (hf : Form u.kind s n d f) (h : Fine s n d f u) (p : Option Addr) (c : Nat) (w : World) :
    Calls Tryz.prog 127 #[uval u (.slice p u.data.length c)] w fun e w' => e = .returned (.int .i64 0) ∧ Kept [] w w' := by
  unfold uval
  have e1 : (u.code == 0) = false := by simpa using h.code
  have e2 : decide (u.flags < 0) = false := by simpa using h.lo
  have e3 : decide (u.flags > 15) = false := by simpa using h.hi
  have LC := hid (fun w => length_call s n d f u.data.length h.len w)
  have FS := hid (fun w => fits_call s u.ses h.ses w)
  have FN := hid (fun w => fits_call n u.num h.num w)
  have FL := h.fl
  have HF := hid hf
  clear h hf
  generalize u.data.length = L at *
  go_enter Tryz.func127, Tryz.ntmps127
  go_wp2_with fail
  have k0 := (Kept.refl [] w).alloc (.cells #[.int .i64 u.kind, .int .u32 u.code, .int .u32 u.ses, .int .u32 u.num, .int .i64 u.flags, .slice p L c] 63)
  have h0 := Has.new w 63 [.int .i64 u.kind, .int .u32 u.code, .int .u32 u.ses, .int .u32 u.num, .int .i64 u.flags, .slice p L c]
  refine (HF.out _).mono ?_
  rintro e w1 ⟨rfl, k1⟩
  have h1 := k1.has h0 (by simp)
  have K1 := hid (k0.trans k1)
  have H1 := hid h1
  clear k0 h0 k1 h1 HF
  generalize w.heap.size = b at *
  unfold formV
  go_upto_region 2 with (fail)
  have kF := (Kept.refl [] w1).alloc (.cells #[.int .i64 s, .int .i64 n, .int .i64 d, .bool f] 259)
  have F2 := hid (show Has (w1.alloc (.cells #[.int .i64 s, .int .i64 n, .int .i64 d, .bool f] 259)) w1.heap.size 259 [.int .i64 s, .int .i64 n, .int .i64 d, .bool f] from Has.new w1 _ _)
  have H2 := hid (kF.has H1.out (by simp))
  have K2 := hid (K1.out.trans kF)
  clear kF K1 H1
  generalize w1.alloc (.cells #[.int .i64 s, .int .i64 n, .int .i64 d, .bool f] 259) = w2 at *
  generalize w1.heap.size = q at *
  have c1 := H2.out.cell 1 (v := .int .u32 u.code) rfl
  have c5 := H2.out.cell 5 (v := .slice p L c) rfl
  have f0 := F2.out.cell 0 (v := .int .i64 s) rfl
  have f1 := F2.out.cell 1 (v := .int .i64 n) rfl
  have f2 := F2.out.cell 2 (v := .int .i64 d) rfl
  have f3 := F2.out.cell 3 (v := .bool f) rfl
  go_wp2_with fail
  refine (LC.out w2).mono ?_
  rintro e w3 ⟨rfl, k3⟩
  have K3 := hid (K2.out.trans k3)
  have H3 := hid (k3.has H2.out (by simp))
  have F3 := hid (k3.has F2.out (by simp))
  clear k3 K2 H2 F2 c1 c5 f0 f1 f2 f3
  have c2 := H3.out.cell 2 (v := .int .u32 u.ses) rfl
  have c3 := H3.out.cell 3 (v := .int .u32 u.num) rfl
  have c4 := H3.out.cell 4 (v := .int .i64 u.flags) rfl
  have f0 := F3.out.cell 0 (v := .int .i64 s) rfl
  have f1 := F3.out.cell 1 (v := .int .i64 n) rfl
  have f3 := F3.out.cell 3 (v := .bool f) rfl
  go_wp2_with fail
  refine (FS.out w3).mono ?_
  rintro e w4 ⟨rfl, rfl⟩
  go_wp2_with fail
  refine (FN.out w4).mono ?_
  rintro e w5 ⟨rfl, rfl⟩
  cases f
  · have e4 : (u.flags != 0) = false := by simp [FL rfl]
    go_wp2_with fail
    go_ret
    exact ⟨rfl, K3.out⟩
  · go_wp2_with fail
    go_ret
    exact ⟨rfl, K3.out⟩
def Law (u : U) : Prop :=
  (u.kind = 1 ∧ Fine 0 0 1 false u) ∨ (u.kind = 2 ∧ Fine 1 0 1 false u) ∨ (u.kind = 17 ∧ Fine 1 0 1 false u) ∨ (u.kind = 3 ∧ Fine 1 0 0 false u) ∨ (u.kind = 18 ∧ Fine 1 0 0 false u) ∨ (u.kind = 19 ∧ Fine 1 0 0 false u)
  ∨ (u.kind = 4 ∧ Fine 1 1 2 true u) ∨ (u.kind = 20 ∧ Fine 1 1 2 true u) ∨ (u.kind = 5 ∧ Fine 1 1 0 false u) ∨ (u.kind = 21 ∧ Fine 1 1 0 false u) ∨ (u.kind = 22 ∧ Fine 2 0 0 false u)
theorem lawful_call (u : U) (h : Law u) (p : Option Addr) (c : Nat) (w : World) :
    Calls Tryz.prog 127 #[uval u (.slice p u.data.length c)] w fun e w' => e = .returned (.int .i64 0) ∧ Kept [] w w' := by
  rcases h with ⟨hk, h⟩ | ⟨hk, h⟩ | ⟨hk, h⟩ | ⟨hk, h⟩ | ⟨hk, h⟩ | ⟨hk, h⟩ | ⟨hk, h⟩ | ⟨hk, h⟩ | ⟨hk, h⟩ | ⟨hk, h⟩ | ⟨hk, h⟩
  · exact lawful_form u _ _ _ _ (by unfold Form; rw [hk]; exact form_call1) h p c w
  · exact lawful_form u _ _ _ _ (by unfold Form; rw [hk]; exact form_call2) h p c w
  · exact lawful_form u _ _ _ _ (by unfold Form; rw [hk]; exact form_call17) h p c w
  · exact lawful_form u _ _ _ _ (by unfold Form; rw [hk]; exact form_call3) h p c w
  · exact lawful_form u _ _ _ _ (by unfold Form; rw [hk]; exact form_call18) h p c w
  · exact lawful_form u _ _ _ _ (by unfold Form; rw [hk]; exact form_call19) h p c w
  · exact lawful_form u _ _ _ _ (by unfold Form; rw [hk]; exact form_call4) h p c w
  · exact lawful_form u _ _ _ _ (by unfold Form; rw [hk]; exact form_call20) h p c w
  · exact lawful_form u _ _ _ _ (by unfold Form; rw [hk]; exact form_call5) h p c w
  · exact lawful_form u _ _ _ _ (by unfold Form; rw [hk]; exact form_call21) h p c w
  · exact lawful_form u _ _ _ _ (by unfold Form; rw [hk]; exact form_call22) h p c w
end UnW
namespace SlM
open Go Go.RowKit Hp Sl Ap
theorem row_owns {w : World} {u : Value} {l : List Int} (h : Row w u l) : w.ownsRow 0 5 1 u l.length (U8 l) := by
  rcases h with ⟨rfl, rfl⟩ | ⟨g, cap, cur, rfl, h1, h2, h3, h4, h5⟩
  · exact ⟨rfl, .inl ⟨rfl, rfl⟩⟩
  · refine ⟨by simp [U8], .inr ⟨g, cap, cur.toArray, rfl, Nat.zero_le _, ?_, h2, h3, by simpa using h4, by simpa using h5⟩⟩
    unfold Has at h1; rw [h1]
theorem row_of_owns {w : World} {B : Nat} {v : Value} {l : List Int} (h : w.ownsRow B 5 1 v l.length (U8 l)) : Row w v l := by
  obtain ⟨_, ⟨e, hn⟩ | ⟨g, cap, cur, e, hb, hh, h1, h2, h3, h4⟩⟩ := h
  · exact .inl ⟨e, List.length_eq_zero_iff.1 hn⟩
  · refine .inr ⟨g, cap, cur.toList, e, ?_, h1, h2, by simpa using h3, by simpa using h4⟩
    unfold Has; rw [hh]
structure Many (w w' : World) (u u' : Value) (l : List Int) : Prop where
  row : Row w' u' l
  kept : Kept u.ownBlock.toList w w'
  block : u'.ownBlock = u.ownBlock ∨ ∃ g, u'.ownBlock = some g ∧ w.heap.size ≤ g
theorem run_many (ty : TypeId) (w : World) (u : Value) (l : List Int) (src : Value) (l2 : List Int) (hu : Row w u l) (hB : Bytes w src l2) (hl : l.length + l2.length ≤ 70368744177664) :
    ∃ u' w', (Builtin.append_ #[36, 36] ty #[u, src]).run Tryz.prog w = .ok u' w' ∧ Many w w' u u' (l ++ l2) := by
  obtain ⟨i0, hi, hz0, hz1, hz2⟩ := info_parts info5
  rcases hB with ⟨rfl, rfl⟩ | ⟨x, cap, rfl, h1, h2, h3⟩
  · have hr := run_append_owned_none (P := Tryz.prog) (w := w) 0 36 ty 5 i0 1 Tryz.underlying36 hi _ _ _ (row_owns hu)
    exact ⟨_, _, hr, ⟨by simpa using hu, (Kept.refl _ _), .inl rfl⟩⟩
  · have hc := Bytes.cells h3 (.cells #[] 5)
    have hc' : ∀ j v, (U8 l2)[j]? = some v → w.cell? (Addr.add x j) = some v := by
      intro j v hj
      have hjl : j < l2.length := by
        rcases Nat.lt_or_ge j l2.length with h | h
        · exact h
        · rw [List.getElem?_eq_none (by simpa [U8] using h)] at hj; cases hj
      rcases h3 with rfl | ⟨b, off, rfl, hb, h4⟩
      · simp at hjl
      · rw [Go.WideShapes.add_plain, h4 j hjl, ← hj]
        simp [U8, List.getElem?_map, List.getElem?_eq_getElem hjl]
    obtain ⟨v', w', hr, hown', hgrow, _, hat⟩ := run_append_own_at (P := Tryz.prog) w 0 36 ty 5 i0 (.int .u8 0) 1 1 Tryz.underlying36 hi hz0 hz1 hz2 rfl (by decide) _ _ _ (row_owns hu) x l2.length cap (U8 l2) (by simp [U8]) hc' (u8_oneCell l2) (by unfold maxLen; omega) (by omega) (Nat.zero_le _)
    have h9 : w'.ownsRow 0 5 1 v' (l ++ l2).length (U8 (l ++ l2)) := by
      have : U8 l ++ U8 l2 = U8 (l ++ l2) := by simp [U8]
      rw [← this, List.length_append]
      exact hown'
    refine ⟨v', w', hr, row_of_owns h9, kept_of_grown hgrow (by intro k hk; simp [hk]), ?_⟩
    rcases hat with h | h
    · exact .inl h
    · exact .inr ⟨_, h, Nat.le_refl _⟩
theorem row_new (w : World) (l : List Int) (h : l.length ≤ maxLen) : Row (w.alloc (.cells (U8 l).toArray 5)) (.slice (some ⟨w.heap.size, 0, none⟩) l.length l.length) l :=
  .inr ⟨w.heap.size, l.length, U8 l, rfl, Has.new w _ _, Nat.le_refl _, h, by simp [U8], by rw [List.take_of_length_le (by simp [U8])]⟩
theorem Row.bytes {w : World} {v : Value} {l : List Int} (h : Row w v l) : Bytes w v l := by
  rcases h with h | ⟨g, h⟩
  · exact .inl h
  · exact h.bytes
end SlM
namespace EncW
open Go Go.RowKit Hp Sl Gf DogC SlC Ap CrcW TM SlM
theorem wpList_many {ops : Array Oper} {rest : List Oper} {o : Oper} {a : Act} {Q : Exit → Act → World → Prop} (hgd : Region.wanted o (yielded ops a.tmps) = true) (s x : Operand)
    (ho : o.op = .call { callee := .builtin .append, args := #[s, x], argTypes := #[36, 36] }) {w : World} (u : Value) (l : List Int) (src : Value) (l2 : List Int) (hu : Row w u l) (hB : Bytes w src l2)
    (hs : a.eval s = u) (hx : a.eval x = src) (hl : l.length + l2.length ≤ 70368744177664)
    (h : ∀ v' w', Many w w' u v' (l ++ l2) → wpList Tryz.prog ops Q rest (a.put o.dst v') w') : wpList Tryz.prog ops Q (o :: rest) a w := by
  obtain ⟨v', w', hr, hm⟩ := run_many o.type w u l src l2 hu hB hl
  refine wpList_step fun K hK => ?_
  rw [if_pos hgd]
  unfold Oper.wp execOp
  simp only [ho, resolve, invoke, builtin, Sem.run_bind, Sem.run_pure, Result.andThen_ok, List.map_toArray, List.map_cons, List.map_nil, hs, hx, hr]
  exact hK _ _ (h v' w' hm)
def w4 (s : Int) : List Int := [(s / 16777216) % 256, (s / 65536) % 256, (s / 256) % 256, s % 256]
theorem w4_by (s : Int) : By (w4 s) := by intro x hx; simp [w4] at hx; omega
theorem w4_len (s : Int) : (w4 s).length = 4 := rfl
theorem Many.after {w w1 w2 : World} {u v : Value} {l : List Int} (k : Kept [] w w1) (h : Many w1 w2 u v l) : Many w w2 u v l :=
  ⟨h.row, (k.mono (by simp)).trans h.kept, h.block.imp id (fun ⟨g, e, hg⟩ => ⟨g, e, Nat.le_trans k.size hg⟩)⟩
theorem Many.has {w w' : World} {u v : Value} {l l0 : List Int} {b : Nat} {T : TypeId} {cs : List Value} (m : Many w w' u v l) (hu : Row w u l0) (h : Has w b T cs) (hT : 5 ≠ T) : Has w' b T cs :=
  m.kept.has h (by
    intro hm
    simp at hm
    rcases hu with ⟨rfl, _⟩ | ⟨g, cap, cur, rfl, hh, _⟩
    · cases hm
    · cases hm; exact Ow.Has.ne hh h hT rfl)
theorem temp_bytes (w : World) (l : List Int) (h : l.length ≤ maxLen) : Bytes (w.alloc (.cells (U8 l).toArray 5)) (.slice (some ⟨w.heap.size, 0, none⟩) l.length l.length) l := SlM.Row.bytes (row_new w l h)
set_option maxHeartbeats 1600000 in
theorem put_call (u : Value) (l : List Int) (x : Int) (w : World) (hu : Row w u l) (hl : l.length ≤ 100000) : Calls Tryz.prog 146 #[u, .int .u32 x] w fun e w' => ∃ v, e = .returned v ∧ Many w w' u v (l ++ w4 x) := by
  obtain ⟨p, c, rfl⟩ : ∃ p c, u = .slice p l.length c := by rcases hu with ⟨rfl, rfl⟩ | ⟨g, cap, cur, rfl, _⟩ <;> exact ⟨_, _, rfl⟩
  have kt := (Kept.refl [] w).alloc (.cells (U8 (w4 x)).toArray 5)
  have HB := hid (temp_bytes w (w4 x) (by rw [w4_len]; unfold maxLen; omega))
  have HU := hid (hu.kept kt (by simp))
  have KT := hid kt
  clear hu kt
  go_enter Tryz.func146, Tryz.ntmps146
  go_wp2_with (at_builtin; refine wpList_many rfl _ _ rfl (.slice p l.length c) l _ (w4 x) HU.out HB.out rfl rfl (by rw [w4_len]; omega) ?_)
  intro v' w' hm
  have HM := hid (Many.after KT.out hm)
  clear hm
  go_wp2_with fail
  go_ret
  exact ⟨_, rfl, HM.out⟩
set_option maxHeartbeats 1600000 in
theorem word_call (u : Value) (l : List Int) (x : Int) (w : World) (hu : Row w u l) (hl : l.length ≤ 100000) : Calls Tryz.prog 145 #[u, .int .u32 x] w fun e w' => ∃ v, e = .returned v ∧ Many w w' u v (l ++ w4 x) := by
  obtain ⟨p, c, rfl⟩ : ∃ p c, u = .slice p l.length c := by rcases hu with ⟨rfl, rfl⟩ | ⟨g, cap, cur, rfl, _⟩ <;> exact ⟨_, _, rfl⟩
  have kt := (Kept.refl [] w).alloc (.cells (U8 (w4 x)).toArray 5)
  have HB := hid (temp_bytes w (w4 x) (by rw [w4_len]; unfold maxLen; omega))
  have HU := hid (hu.kept kt (by simp))
  have KT := hid kt
  clear hu kt
  go_enter Tryz.func145, Tryz.ntmps145
  go_wp2_with (at_builtin; refine wpList_many rfl _ _ rfl (.slice p l.length c) l _ (w4 x) HU.out HB.out rfl rfl (by rw [w4_len]; omega) ?_)
  intro v' w' hm
  have HM := hid (Many.after KT.out hm)
  clear hm
  go_wp2_with fail
  go_ret
  exact ⟨_, rfl, HM.out⟩
def sealed (l : List Int) : List Int := l ++ w4 (crc l : Int)
theorem sealed_len (l : List Int) : (sealed l).length = l.length + 4 := by simp [sealed, w4]
theorem sealed_by {l : List Int} (h : By l) : By (sealed l) := h.append (w4_by _)
theorem w4_pol {s : Nat} (h : s < 2 ^ 32) : pol (w4 (s : Int)) = s := by simp [w4, pol]; omega
theorem crc_sealed {l : List Int} : crc (sealed l) = 0 := by
  have hw := w4_by (crc l : Int)
  unfold sealed
  unfold crc
  have h : pol (l ++ w4 ((crc l : Nat) : Int)) = pol l * 2 ^ 32 ^^^ crc l := by
    rw [pol_append_xor hw, w4_pol (crc_lt l)]; rfl
  have e : pm G 32 (pol l * 2 ^ 32 ^^^ crc l) = 0 := by
    rw [pm_xor G1 G2, pm_small (p := crc l) G1 G2 (crc_lt l)]; unfold crc; simp
  show pm G 32 (pol (l ++ w4 ((crc l : Nat) : Int)) * 2 ^ 32) = 0
  rw [h, ← pm_shift G1 G2, e, Nat.zero_mul, pm_zero]
def Made (w w' : World) (v : Value) (l : List Int) : Prop := Row w' v l ∧ ∀ k, v.ownBlock = some k → w.heap.size ≤ k
theorem Made.bytes {w w' : World} {v : Value} {l : List Int} (h : Made w w' v l) : Bytes w' v l := SlM.Row.bytes h.1
theorem Made.kept {w w' w'' : World} {v : Value} {l : List Int} {S : List Nat} (h : Made w w' v l) (k : Hp.Kept S w' w'') (hS : ∀ b, v.ownBlock = some b → b ∉ S) : Made w w'' v l := ⟨h.1.kept k hS, h.2⟩
theorem Made.shape {w w' : World} {v : Value} {l : List Int} (h : Made w w' v l) : ∃ p c, v = .slice p l.length c := by
  rcases h.1.shape with ⟨rfl, rfl⟩ | ⟨g, cap, e, _⟩
  · exact ⟨_, _, rfl⟩
  · exact ⟨_, _, e⟩
theorem made_of_cloned {w w1 : World} {s v : Value} {l : List Int} (hb : Bytes w s l) (h : Cloned w s l v w1) : Made w w1 v l := by
  rcases h with ⟨rfl, rfl⟩ | ⟨_, g, hg, ho⟩
  · refine ⟨.inl ⟨rfl, ?_⟩, fun k hk => by cases hk⟩
    rcases hb with ⟨_, h⟩ | ⟨x, cap, e, _⟩
    · exact h
    · cases e
  · exact ⟨.inr ⟨g, ho⟩, fun k hk => by rw [Own.block ho] at hk; cases hk; exact hg⟩
theorem Made.many {w w1 w2 : World} {u v : Value} {l l2 : List Int} (h : Made w w1 u l) (k : Kept [] w w1) (m : Many w1 w2 u v l2) : Made w w2 v l2 ∧ Kept [] w w2 :=
  ⟨⟨m.row, fun i hi => by
    rcases m.block with e | ⟨g, e, hg⟩
    · exact h.2 i (e ▸ hi)
    · rw [e] at hi; cases hi; exact Nat.le_trans k.size hg⟩, k.fresh m.kept (fun i hi hl => by simp at hi; exact absurd hl (Nat.not_lt.2 (h.2 i hi)))⟩
set_option maxHeartbeats 1600000 in
theorem seal_call (v : Value) (l : List Int) (w : World) (hs : Bytes w v l) (hb : By l) (hl : l.length ≤ 1000000) : Calls Tryz.prog 147 #[v] w fun e w' => ∃ v', e = .returned v' ∧ Kept [] w w' ∧ Made w w' v' (sealed l) := by
  obtain ⟨sp, sc, rfl, hsc⟩ := sl_shape hs
  have BC := hid (bits_call _ l w hs hb hl)
  have CC := hid (clone_call _ l w hs (by omega))
  have SB := hid hs
  have HL := hid hl
  have HS := hid (show sealed l = l ++ w4 (crc l : Int) from rfl)
  clear hs hb hl
  generalize crc l = s at *
  go_enter Tryz.func147, Tryz.ntmps147
  go_wp2_with fail
  refine BC.out.mono ?_
  rintro e w1 ⟨rfl, rfl⟩
  go_wp2_with fail
  refine CC.out.mono ?_
  rintro e w2 ⟨y, rfl, k2, hc⟩
  have M2 := hid (made_of_cloned SB.out hc)
  obtain ⟨py, cy, rfl⟩ := M2.out.shape
  have K2 := hid k2
  have kt := (Kept.refl [] w2).alloc (.cells (U8 (w4 (s : Int))).toArray 5)
  have HB := hid (temp_bytes w2 (w4 (s : Int)) (by rw [w4_len]; unfold maxLen; omega))
  have M3 := hid (M2.out.kept kt (by simp))
  have K3 := hid (k2.trans kt)
  clear k2 hc kt CC BC M2
  go_wp2_with (at_builtin; refine wpList_many rfl _ _ rfl (.slice py l.length cy) l _ (w4 (s : Int)) M3.out.1 HB.out rfl rfl (by rw [w4_len]; have := HL.out; omega) ?_)
  intro v' w' hm
  have HM := hid (M3.out.many K3.out hm)
  clear hm
  go_wp2_with fail
  go_ret
  exact ⟨_, rfl, HM.out.2, by rw [HS.out]; exact HM.out.1⟩
end EncW
namespace ParW
open Go Go.RowKit Hp Sl Gf DogC SlC Ap CrcW TM SlM EncW
structure POk (p : P) : Prop where
  code : 0 < p.code ∧ p.code < 4294967296
  out : 1 ≤ p.out ∧ p.out ≤ 8
  inn : 1 ≤ p.inn ∧ p.inn ≤ 8
  watch : 1 ≤ p.watch ∧ p.watch ≤ 1048576
  count : 2 ≤ p.count ∧ p.count < 4294967296
def pcells (p : P) : List Value := [.int .u32 p.code, .int .i64 p.out, .int .i64 p.inn, .int .i64 p.watch, .int .u32 p.count]
def pval (p : P) : Value := .agg #[.int .u32 p.code, .int .i64 p.out, .int .i64 p.inn, .int .i64 p.watch, .int .u32 p.count]
def encP (p : P) : List Int := w4 p.code ++ [p.out % 256, p.inn % 256] ++ w4 (p.watch % 4294967296) ++ w4 p.count
theorem encP_len (p : P) : (encP p).length = 14 := by simp [encP, w4]
theorem encP_by (p : P) : By (encP p) := by
  have h : By [p.out % 256, p.inn % 256] := by intro x hx; simp at hx; omega
  exact (((w4_by _).append h).append (w4_by _)).append (w4_by _)
def sigN (p : P) : Nat := crc (encP p)
def sigB (p : P) : List Int := w4 (sigN p : Int)
theorem check_call (p : P) (h : POk p) (w : World) : Calls Tryz.prog 55 #[pval p] w fun e w' => e = .returned (.int .i64 0) ∧ Kept [] w w' := by
  unfold pval
  have e0 : (p.code == 0) = false := by have := h.code; simp; omega
  have e1 : decide (p.out < 1) = false := by have := h.out; simp; omega
  have e2 : decide (p.out > 8) = false := by have := h.out; simp; omega
  have e3 : decide (p.inn < 1) = false := by have := h.inn; simp; omega
  have e4 : decide (p.inn > 8) = false := by have := h.inn; simp; omega
  have e5 : decide (p.watch < 1) = false := by have := h.watch; simp; omega
  have e6 : decide (p.watch > 1048576) = false := by have := h.watch; simp; omega
  have e7 : decide (p.count < 2) = false := by have := h.count; simp; omega
  clear h
  go_enter Tryz.func55, Tryz.ntmps55
  go_wp2
  go_ret
  exact ⟨rfl, (Kept.refl _ _).alloc _⟩
theorem row_nil (w : World) : Row w (.slice none 0 0) [] := .inl ⟨rfl, rfl⟩
theorem many_made {w w' : World} {v : Value} {l : List Int} (h : Many w w' (.slice none 0 0) v l) : Made w w' v l ∧ Kept [] w w' :=
  ⟨⟨h.row, fun k hk => by
    rcases h.block with e | ⟨g, e, hg⟩
    · rw [e] at hk; cases hk
    · rw [e] at hk; cases hk; exact hg⟩, h.kept⟩
theorem bytes_call (s : Int) (w : World) : Calls Tryz.prog 119 #[.int .u32 s] w fun e w' => ∃ v, e = .returned v ∧ Kept [] w w' ∧ Made w w' v (w4 s) := by
  have WC := hid (word_call (.slice none 0 0) [] s w (row_nil w) (by simp))
  go_enter Tryz.func119, Tryz.ntmps119
  go_wp2_with fail
  refine WC.out.mono ?_
  rintro e w1 ⟨v, rfl, hm⟩
  have HM := hid (many_made hm)
  clear hm WC
  go_wp2_with fail
  go_ret
  exact ⟨_, rfl, HM.out.2, HM.out.1⟩
set_option maxRecDepth 100000 in
set_option maxHeartbeats 3200000 in
theorem encode_call (p : P) (h : POk p) (w : World) : Calls Tryz.prog 143 #[pval p] w fun e w' => ∃ v, e = .returned (.tuple #[v, .int .i64 0]) ∧ Kept [] w w' ∧ Made w w' v (encP p) := by
  have CC := hid (fun w => check_call p h w)
  have k0 := (Kept.refl [] w).alloc (.cells (pcells p).toArray 50)
  have H0 := hid (Has.new w 50 (pcells p))
  have K0 := hid k0
  clear h k0
  unfold pval at CC ⊢
  go_enter Tryz.func143, Tryz.ntmps143
  go_upto_region 1 with (fail)
  change Code.wp _ _ _ _ (w.alloc (.cells (pcells p).toArray 50))
  generalize w.alloc (.cells (pcells p).toArray 50) = w1 at *
  generalize hb : w.heap.size = b at *
  have c0 := H0.out.cell 0 (v := .int .u32 p.code) rfl
  have c1 := H0.out.cell 1 (v := .int .i64 p.out) rfl
  have c2 := H0.out.cell 2 (v := .int .i64 p.inn) rfl
  have c3 := H0.out.cell 3 (v := .int .i64 p.watch) rfl
  have c4 := H0.out.cell 4 (v := .int .u32 p.count) rfl
  go_wp2_with fail
  refine (CC.out w1).mono ?_
  rintro e w2 ⟨rfl, k2⟩
  have K2 := hid (K0.out.trans k2)
  have H2 := hid (k2.has H0.out (by simp))
  clear k2 c0 c1 c2 c3 c4 K0 H0 CC
  have c0 := H2.out.cell 0 (v := .int .u32 p.code) rfl
  have WC := hid (word_call (.slice none 0 0) [] p.code w2 (row_nil w2) (by simp))
  go_wp2_with fail
  refine WC.out.mono ?_
  rintro e w3 ⟨v3, rfl, hm⟩
  have m3 := many_made hm
  have K3 := hid (K2.out.trans m3.2)
  have H3 := hid (m3.2.has H2.out (by simp))
  have M3 := hid (show Made w w3 v3 (w4 p.code) from ⟨m3.1.1, fun k hk => Nat.le_trans K2.out.size (m3.1.2 k hk)⟩)
  obtain ⟨p3, q3, rfl⟩ := M3.out.shape
  clear hm m3 WC K2 H2 c0
  have c1 := H3.out.cell 1 (v := .int .i64 p.out) rfl
  have c2 := H3.out.cell 2 (v := .int .i64 p.inn) rfl
  have kt := (Kept.refl [] w3).alloc (.cells (U8 [p.out % 256, p.inn % 256]).toArray 5)
  have HB := hid (temp_bytes w3 [p.out % 256, p.inn % 256] (by simp; unfold maxLen; omega))
  have M4 := hid (M3.out.kept kt (by simp))
  have K4 := hid (K3.out.trans kt)
  have H4 := hid (kt.has H3.out (by simp))
  clear kt K3 M3 H3
  go_wp2_with (at_builtin; refine wpList_many rfl _ _ rfl (.slice p3 (w4 p.code).length q3) (w4 p.code) _ [p.out % 256, p.inn % 256] M4.out.1 HB.out rfl rfl (by simp [w4_len]) ?_)
  intro v5 w5 hm
  have m5 := M4.out.many K4.out hm
  have hbl : ∀ i, Value.ownBlock (.slice p3 (w4 p.code).length q3) = some i → i ≠ b := fun i hi e => by
    have := H4.out.lt
    have q := M4.out.2 i hi
    subst e
    rcases M4.out.1 with ⟨e2, _⟩ | ⟨g, cap, cur, e2, hh, _⟩
    · rw [e2] at hi; cases hi
    · rw [e2] at hi; cases hi
      exact Ow.Has.ne H4.out hh (by decide) rfl
  have H5 := hid (hm.kept.has H4.out (by intro hx; simp at hx; exact hbl _ hx rfl))
  have M5 := hid m5.1
  have K5 := hid m5.2
  obtain ⟨p5, q5, rfl⟩ := M5.out.shape
  clear hm m5 hbl M4 K4 H4 HB c1 c2
  go_wp2_with fail
  have KD := (Kept.refl [] w5).drewN 1
  have RD := hid (M5.out.1.kept KD (by simp))
  have WC := hid (fun l (hl : l.length ≤ 100000) u x W hu => word_call u l x W hu hl)
  have HLL := hid (show (w4 p.code ++ [p.out % 256, p.inn % 256]).length = 6 by simp [w4_len])
  have HD := hid (H5.out.drewN 1)
  have EW := hid (show IntKind.u32.wrap p.watch = p.watch % 4294967296 by rw [IntKind.wrap_u32])
  have dd := And.intro (H5.out.drew.cell 3 (v := .int .i64 p.watch) rfl) (H5.out.drew.cell 4 (v := .int .u32 p.count) rfl)
  have EP := hid (show encP p = w4 p.code ++ [p.out % 256, p.inn % 256] ++ w4 (p.watch % 4294967296) ++ w4 p.count from rfl)
  have KD5 := hid (K5.out.drewN 1)
  have MD5 := hid (M5.out.kept KD (by simp))
  clear KD
  generalize w4 p.code ++ [p.out % 256, p.inn % 256] = A at *
  have c3 := H5.out.cell 3 (v := .int .i64 p.watch) rfl
  have c4 := H5.out.cell 4 (v := .int .u32 p.count) rfl
  clear dd
  go_region_law (first
    | (go_simp; go_at_call 145; refine (WC.out (A ++ w4 (p.watch % 4294967296)) (by rw [List.length_append, w4_len, HLL.out]; omega) _ p.count w6 M6.out.row).mono ?_; rintro e w7 ⟨v7, rfl, m7⟩; have M7 := hid m7; clear m7)
    | (go_simp; go_at_call 145; rw [EW.out]; refine (WC.out A (by rw [HLL.out]; omega) _ (p.watch % 4294967296) _ RD.out).mono ?_; rintro e w6 ⟨v6, rfl, m6⟩; have H6 := hid (EncW.Many.has m6 RD.out HD.out (by decide)); have d4 := H6.out.cell 4 (v := .int .u32 p.count) rfl; have M6 := hid m6; clear m6))
  all_goals (
    have a := EncW.Made.many MD5.out KD5.out M6.out
    have q := hid (EncW.Made.many a.1 a.2 M7.out)
    clear a
    go_wp2_with fail
    go_ret2
    exact ⟨_, rfl, q.out.2, by rw [EP.out]; exact q.out.1⟩)
theorem signature_call (p : P) (h : POk p) (w : World) : Calls Tryz.prog 118 #[pval p] w fun e w' => e = .returned (.tuple #[.int .u32 (sigN p : Nat), .int .i64 0]) ∧ Kept [] w w' := by
  have k0 := (Kept.refl [] w).alloc (.cells (pcells p).toArray 50)
  have EC := hid (fun w => encode_call p h w)
  have BC := hid (fun v w hs => bits_call v (encP p) w hs (encP_by p) (by rw [encP_len]; omega))
  have EL := hid (show ∃ E, encP p = E from ⟨_, rfl⟩)
  have SN := hid (show sigN p = crc (encP p) from rfl)
  clear h
  unfold pval at EC ⊢
  generalize encP p = E at *
  go_enter Tryz.func118, Tryz.ntmps118
  go_wp2_with fail
  refine (EC.out _).mono ?_
  rintro e w2 ⟨v, rfl, k2, m2⟩
  have K2 := hid (k0.trans k2)
  have B2 := hid m2.bytes
  obtain ⟨pv, qv, rfl⟩ := m2.shape
  clear k0 k2 m2
  go_wp2_with fail
  refine (BC.out _ _ B2.out).mono ?_
  rintro e w3 ⟨rfl, rfl⟩
  go_wp2_with fail
  go_ret2
  exact ⟨by rw [SN.out]; rfl, K2.out⟩
end ParW
namespace NumW
open Go Go.RowKit Hp Sl Gf DogC SlC Ap CrcW TM SlM EncW ParW
theorem or32 {a b : Nat} (ha : a < 2 ^ 32) (hb : b < 2 ^ 32) : bits .or .u32 (a : Int) (b : Int) = ((a ||| b : Nat) : Int) := u32_or_nat a b (by omega) (by omega)
theorem or_add {i a b : Nat} (h : b < 2 ^ i) : a * 2 ^ i ||| b = a * 2 ^ i + b := by rw [Nat.mul_comm a, Nat.two_pow_add_eq_or_of_lt h]
def num4 (a b c d : Nat) : Nat := a * 16777216 + b * 65536 + c * 256 + d
theorem num_or {a b c d : Nat} (ha : a < 256) (hb : b < 256) (hc : c < 256) (hd : d < 256) :
    Go.bits .or .u32 (Go.bits .or .u32 (Go.bits .or .u32 ((((a : Int) % 4294967296) * 16777216) % 4294967296) ((((b : Int) % 4294967296) * 65536) % 4294967296)) ((((c : Int) % 4294967296) * 256) % 4294967296)) ((d : Int) % 4294967296) = ((num4 a b c d : Nat) : Int) := by
  rw [show (((a : Int) % 4294967296) * 16777216) % 4294967296 = ((a * 2 ^ 24 : Nat) : Int) from by omega, show (((b : Int) % 4294967296) * 65536) % 4294967296 = ((b * 2 ^ 16 : Nat) : Int) from by omega,
    show (((c : Int) % 4294967296) * 256) % 4294967296 = ((c * 2 ^ 8 : Nat) : Int) from by omega, show ((d : Int) % 4294967296) = (d : Int) from by omega]
  rw [or32 (by omega) (by omega), or_add (by omega), or32 (by omega) (by omega), show a * 2 ^ 24 + b * 2 ^ 16 = (a * 2 ^ 8 + b) * 2 ^ 16 from by omega, or_add (by omega), or32 (by omega) (by omega),
    show (a * 2 ^ 8 + b) * 2 ^ 16 + c * 2 ^ 8 = ((a * 2 ^ 8 + b) * 2 ^ 8 + c) * 2 ^ 8 from by omega, or_add (by omega)]
  unfold num4; omega
theorem w4_num {a b c d : Nat} (ha : a < 256) (hb : b < 256) (hc : c < 256) (hd : d < 256) : w4 ((num4 a b c d : Nat) : Int) = [(a : Int), (b : Int), (c : Int), (d : Int)] := by
  unfold w4 num4
  congr 1
  · omega
  congr 1
  · omega
  congr 1
  · omega
  congr 1
  omega
structure Four (w : World) (b off : Nat) (x0 x1 x2 x3 : Nat) : Prop where
  c0 : w.cell? ⟨b, off, none⟩ = some (.int .u8 (x0 : Int))
  c1 : w.cell? ⟨b, off + 1, none⟩ = some (.int .u8 (x1 : Int))
  c2 : w.cell? ⟨b, off + 2, none⟩ = some (.int .u8 (x2 : Int))
  c3 : w.cell? ⟨b, off + 3, none⟩ = some (.int .u8 (x3 : Int))
  h0 : x0 < 256
  h1 : x1 < 256
  h2 : x2 < 256
  h3 : x3 < 256
theorem get_call (b off n c x0 x1 x2 x3 : Nat) (hn : 4 ≤ n) (hc : n ≤ c) (w : World) (h : Four w b off x0 x1 x2 x3) : Calls Tryz.prog 126 #[.slice (some ⟨b, off, none⟩) n c] w fun e w' => e = .returned (.int .u32 ((num4 x0 x1 x2 x3 : Nat) : Int)) ∧ Kept [] w w' := by
  have E := hid (num_or h.h0 h.h1 h.h2 h.h3)
  have c0 := h.c0
  have c1 := h.c1
  have c2 := h.c2
  have c3 := h.c3
  clear h
  go_enter Tryz.func126, Tryz.ntmps126
  go_wp2_with fail
  go_quiet (fail)
  go_wp2_with fail
  go_ret
  exact ⟨by rw [← E.out]; rfl, (Kept.refl _ _).drewN _⟩
theorem number_call (b off n c x0 x1 x2 x3 : Nat) (hn : 4 ≤ n) (hc : n ≤ c) (w : World) (h : Four w b off x0 x1 x2 x3) : Calls Tryz.prog 182 #[.slice (some ⟨b, off, none⟩) n c] w fun e w' => e = .returned (.int .u32 ((num4 x0 x1 x2 x3 : Nat) : Int)) ∧ Kept [] w w' := by
  have E := hid (num_or h.h0 h.h1 h.h2 h.h3)
  have c0 := h.c0
  have c1 := h.c1
  have c2 := h.c2
  have c3 := h.c3
  clear h
  go_enter Tryz.func182, Tryz.ntmps182
  go_wp2_with fail
  go_quiet (fail)
  go_wp2_with fail
  go_ret
  exact ⟨by rw [← E.out]; rfl, (Kept.refl _ _).drewN _⟩
theorem lt_of_cell {w : World} {b off : Nat} {v : Value} (h : w.cell? ⟨b, off, none⟩ = some v) : b < w.heap.size := by
  rcases Nat.lt_or_ge b w.heap.size with hb | hb
  · exact hb
  · simp [World.cell?, Array.getElem?_eq_none hb] at h
theorem four_of {w : World} {p : Option Addr} {c : Nat} {l : List Int} (h : Bytes w (.slice p l.length c) l) (hb : By l) (hl : l.length = 4) : ∃ b off x0 x1 x2 x3, p = some ⟨b, off, none⟩ ∧ Four w b off x0 x1 x2 x3 ∧ l = [(x0 : Int), (x1 : Int), (x2 : Int), (x3 : Int)] ∧ l.length ≤ c := by
  obtain ⟨b, off, rfl, q0⟩ := SlC.Bytes.at_ h 0 (by omega)
  obtain ⟨b1, off1, e1, q1⟩ := SlC.Bytes.at_ h 1 (by omega)
  obtain ⟨b2, off2, e2, q2⟩ := SlC.Bytes.at_ h 2 (by omega)
  obtain ⟨b3, off3, e3, q3⟩ := SlC.Bytes.at_ h 3 (by omega)
  cases e1; cases e2; cases e3
  obtain ⟨x0, y0, h0⟩ := By.at_ hb 0
  obtain ⟨x1, y1, h1⟩ := By.at_ hb 1
  obtain ⟨x2, y2, h2⟩ := By.at_ hb 2
  obtain ⟨x3, y3, h3⟩ := By.at_ hb 3
  rw [y0] at q0; rw [y1] at q1; rw [y2] at q2; rw [y3] at q3
  refine ⟨b, off, x0, x1, x2, x3, rfl, ⟨q0, q1, q2, q3, h0, h1, h2, h3⟩, ?_, ?_⟩
  · match l, hl with
    | [a, b, c, d], _ => simp at y0 y1 y2 y3; simp [y0, y1, y2, y3]
  · obtain ⟨_, _, e, hh⟩ := sl_shape h; injection e with _ _ e3; rw [e3]; exact hh
theorem sig_lt (p : P) : sigN p < 4294967296 := crc_lt _
theorem match_call (p : P) (h : POk p) (v : Value) (l : List Int) (w : World) (hs : Bytes w v l) (hb : By l) : Calls Tryz.prog 157 #[pval p, v] w fun e w' => e = .returned (.tuple #[.bool (decide (l = sigB p)), .int .i64 0]) ∧ Kept [] w w' := by
  obtain ⟨sp, sc, rfl, hsc⟩ := sl_shape hs
  have k0 := (Kept.refl [] w).alloc (.cells (pcells p).toArray 50)
  have SC := hid (fun w => signature_call p h w)
  have hsl := sig_lt p
  have SB := hid (show sigB p = w4 (sigN p : Int) from rfl)
  clear h
  unfold pval at SC ⊢
  obtain ⟨r, hr⟩ : ∃ r, decide (l = sigB p) = r := ⟨_, rfl⟩
  rw [hr]
  have HR := hid hr
  clear hr
  generalize sigN p = sn at *
  by_cases h4 : l.length = 4
  · obtain ⟨b, off, x0, x1, x2, x3, rfl, hf, hl, hlc⟩ := four_of hs hb h4
    have e4 : (((l.length : Nat) : Int) == 4) = true := by simp [h4]
    have er : (((num4 x0 x1 x2 x3 : Nat) : Int) == (sn : Int)) = r := by
      rw [← HR.out, SB.out, hl]
      by_cases hq : num4 x0 x1 x2 x3 = sn
      · rw [← hq, w4_num hf.h0 hf.h1 hf.h2 hf.h3]; simp
      · have : ¬ [(x0 : Int), (x1 : Int), (x2 : Int), (x3 : Int)] = w4 (sn : Int) := by
          intro e; apply hq
          unfold w4 at e
          simp at e
          unfold num4; omega
        rw [decide_eq_false this]; simp; omega
    have NC := hid (fun W (hf : Four W b off x0 x1 x2 x3) => number_call b off l.length sc x0 x1 x2 x3 (by omega) hlc W hf)
    have HF := hid hf
    have HB := hid hs
    clear hf hs hl hb h4 hsl
    generalize num4 x0 x1 x2 x3 = nn at *
    go_enter Tryz.func157, Tryz.ntmps157
    go_wp2_with fail
    refine (SC.out _).mono ?_
    rintro e w2 ⟨rfl, k2⟩
    have K2 := hid (k0.trans k2)
    have F2 := hid (show Four w2 b off x0 x1 x2 x3 from by
      have hbl : b < w.heap.size := by
        rcases HB.out with ⟨e, _⟩ | ⟨x, cap, e, _, _, h | ⟨b', off', e2, hb, _⟩⟩
        · cases e
        · exact lt_of_cell HF.out.c0
        · cases e; cases e2; exact hb
      have hk : ∀ i, w2.cell? ⟨b, i, none⟩ = w.cell? ⟨b, i, none⟩ := fun i => K2.out.cell (p := ⟨b, i, none⟩) hbl (by simp)
      exact ⟨(hk _).trans HF.out.c0, (hk _).trans HF.out.c1, (hk _).trans HF.out.c2, (hk _).trans HF.out.c3, HF.out.h0, HF.out.h1, HF.out.h2, HF.out.h3⟩)
    clear k0 k2 HF
    go_wp2_with fail
    refine (NC.out w2 F2.out).mono ?_
    rintro e w3 ⟨rfl, k3⟩
    have K3 := hid (K2.out.trans k3)
    clear k3 K2 NC F2
    go_wp2_with fail
    go_ret2
    exact ⟨rfl, K3.out⟩
  · have e4 : (((l.length : Nat) : Int) == 4) = false := by simp; omega
    have er : r = false := by
      rw [← HR.out, decide_eq_false]
      intro e; apply h4; rw [e, SB.out, w4_len]
    subst er
    clear hs hb h4 hsl
    go_enter Tryz.func157, Tryz.ntmps157
    go_wp2_with fail
    refine (SC.out _).mono ?_
    rintro e w2 ⟨rfl, k2⟩
    have K2 := hid (k0.trans k2)
    clear k0 k2
    go_wp2_with fail
    go_ret2
    exact ⟨rfl, K2.out⟩
end NumW
namespace UEnc
open Go Go.RowKit Hp Sl Gf DogC SlC Ap CrcW TM SlM EncW UnW
def body (u : U) : List Int := [u.kind % 256] ++ w4 u.code ++ w4 u.ses ++ w4 u.num ++ [u.flags % 256, (u.data.length : Int) % 256] ++ u.data
def frame (u : U) : List Int := sealed (body u)
theorem body_len (u : U) : (body u).length = 15 + u.data.length := by simp [body, w4_len]; omega
theorem body_by {u : U} (h : By u.data) : By (body u) := by
  have h1 : By [u.kind % 256] := by intro x hx; simp at hx; omega
  have h2 : By [u.flags % 256, (u.data.length : Int) % 256] := by intro x hx; simp at hx; omega
  exact ((((h1.append (w4_by _)).append (w4_by _)).append (w4_by _)).append h2).append h
theorem frame_len (u : U) : (frame u).length = 19 + u.data.length := by unfold frame; rw [sealed_len, body_len]; omega
theorem frame_by {u : U} (h : By u.data) : By (frame u) := sealed_by (body_by h)
def ucells (u : U) (v : Value) : List Value := [.int .i64 u.kind, .int .u32 u.code, .int .u32 u.ses, .int .u32 u.num, .int .i64 u.flags, v]
theorem Law.short {u : U} (h : Law u) : u.data.length ≤ 8 := by
  rcases h with ⟨_, h⟩ | ⟨_, h⟩ | ⟨_, h⟩ | ⟨_, h⟩ | ⟨_, h⟩ | ⟨_, h⟩ | ⟨_, h⟩ | ⟨_, h⟩ | ⟨_, h⟩ | ⟨_, h⟩ | ⟨_, h⟩ <;> · have := h.len; omega
set_option maxRecDepth 100000 in
set_option maxHeartbeats 6400000 in
theorem encode_call (u : U) (h : Law u) (v : Value) (w : World) (hs : Bytes w v u.data) (hb : By u.data) : Calls Tryz.prog 122 #[uval u v] w fun e w' => ∃ v', e = .returned (.tuple #[v', .int .i64 0]) ∧ Kept [] w w' ∧ Made w w' v' (frame u) := by
  obtain ⟨sp, sc, rfl, hsc⟩ := sl_shape hs
  have h8 := Law.short h
  have CC := hid (fun w => lawful_call u h sp sc w)
  have k0 := (Kept.refl [] w).alloc (.cells (ucells u (.slice sp u.data.length sc)).toArray 63)
  have H0 := hid (Has.new w 63 (ucells u (.slice sp u.data.length sc)))
  have K0 := hid k0
  have SB := hid (hs.kept k0 (by simp))
  have SL := hid (fun v w hs => seal_call v (body u) w hs (body_by hb) (by rw [body_len]; omega))
  have BD := hid (show body u = [u.kind % 256] ++ w4 u.code ++ w4 u.ses ++ w4 u.num ++ [u.flags % 256, (u.data.length : Int) % 256] ++ u.data from rfl)
  have H8 := hid h8
  have SB0 := hid hs
  clear h k0 hs hb h8
  unfold uval at CC ⊢
  go_enter Tryz.func122, Tryz.ntmps122
  go_upto_region 1 with (fail)
  change Code.wp _ _ _ _ (w.alloc (.cells (ucells u (.slice sp u.data.length sc)).toArray 63))
  generalize w.alloc (.cells (ucells u (.slice sp u.data.length sc)).toArray 63) = w1 at *
  generalize hbb : w.heap.size = b at *
  have c0 := H0.out.cell 0 (v := .int .i64 u.kind) rfl
  have c1 := H0.out.cell 1 (v := .int .u32 u.code) rfl
  have c2 := H0.out.cell 2 (v := .int .u32 u.ses) rfl
  have c3 := H0.out.cell 3 (v := .int .u32 u.num) rfl
  have c4 := H0.out.cell 4 (v := .int .i64 u.flags) rfl
  have c5 := H0.out.cell 5 (v := .slice sp u.data.length sc) rfl
  go_wp2_with fail
  refine (CC.out w1).mono ?_
  rintro e w2 ⟨rfl, k2⟩
  have K2 := hid (K0.out.trans k2)
  have H2 := hid (k2.has H0.out (by simp))
  have S2 := hid (SB.out.kept k2 (by simp))
  clear k2 c0 c1 c2 c3 c4 c5 K0 H0 CC SB
  have c0 := H2.out.cell 0 (v := .int .i64 u.kind) rfl
  go_upto_region 5 with (fail)
  have kt := (Kept.refl [] w2).alloc (.cells (U8 [u.kind % 256]).toArray 5)
  have M3 := hid (show Made w (w2.alloc (.cells (U8 [u.kind % 256]).toArray 5)) (.slice (some ⟨w2.heap.size, 0, none⟩) 1 1) [u.kind % 256] from ⟨row_new w2 [u.kind % 256] (by simp; unfold maxLen; omega), fun k hk => by cases hk; exact K2.out.size⟩)
  have H3 := hid (kt.has H2.out (by simp))
  have S3 := hid (S2.out.kept kt (by simp))
  have K3 := hid (K2.out.trans kt)
  clear kt H2 S2 K2 c0
  change Code.wp _ _ _ _ (w2.alloc (.cells (U8 [u.kind % 256]).toArray 5))
  generalize w2.alloc (.cells (U8 [u.kind % 256]).toArray 5) = w3 at *
  generalize w2.heap.size = Q at *
  have kd := (Kept.refl [] w3).drewN 1
  have MD := hid (M3.out.kept kd (by simp))
  have HD := hid (kd.has H3.out (by simp))
  have SD := hid (S3.out.kept kd (by simp))
  have KD := hid (K3.out.trans kd)
  have WC := hid (fun l (hl : l.length ≤ 100000) u x W hu => put_call u l x W hu hl)
  have c1 := H3.out.cell 1 (v := .int .u32 u.code) rfl
  have c2 := H3.out.cell 2 (v := .int .u32 u.ses) rfl
  have c3 := H3.out.cell 3 (v := .int .u32 u.num) rfl
  clear kd
  have dd := And.intro (H3.out.drew.cell 1 (v := .int .u32 u.code) rfl) (And.intro (H3.out.drew.cell 2 (v := .int .u32 u.ses) rfl) (H3.out.drew.cell 3 (v := .int .u32 u.num) rfl))
  go_region_held3 (fun w' => w'.cell? ⟨b, 1, none⟩ = some (.int .u32 u.code) ∧ w'.cell? ⟨b, 2, none⟩ = some (.int .u32 u.ses) ∧ w'.cell? ⟨b, 3, none⟩ = some (.int .u32 u.num)) (first | assumption | go_keep)
    (first
      | (go_at_call 146; with_reducible refine (WC.out ([u.kind % 256] ++ w4 u.code ++ w4 u.ses) (by simp [w4_len]) _ u.num w5 M5.out.row).mono ?_; rintro e w6 ⟨v6, rfl, m6⟩; have H6 := hid (EncW.Many.has m6 M5.out.row H5.out (by decide)); have d6 := And.intro (H6.out.cell 1 (v := .int .u32 u.code) rfl) (And.intro (H6.out.cell 2 (v := .int .u32 u.ses) rfl) (H6.out.cell 3 (v := .int .u32 u.num) rfl)); have M6 := hid m6; clear m6)
      | (go_at_call 146; with_reducible refine (WC.out ([u.kind % 256] ++ w4 u.code) (by simp [w4_len]) _ u.ses w4' M4.out.row).mono ?_; rintro e w5 ⟨v5, rfl, m5⟩; have H5 := hid (EncW.Many.has m5 M4.out.row H4.out (by decide)); have d5 := And.intro (H5.out.cell 1 (v := .int .u32 u.code) rfl) (And.intro (H5.out.cell 2 (v := .int .u32 u.ses) rfl) (H5.out.cell 3 (v := .int .u32 u.num) rfl)); have M5 := hid m5; clear m5)
      | (go_at_call 146; refine (WC.out [u.kind % 256] (by simp) _ u.code _ MD.out.1).mono ?_; rintro e w4' ⟨v4, rfl, m4⟩; have H4 := hid (EncW.Many.has m4 MD.out.1 HD.out (by decide)); have d4 := And.intro (H4.out.cell 1 (v := .int .u32 u.code) rfl) (And.intro (H4.out.cell 2 (v := .int .u32 u.ses) rfl) (H4.out.cell 3 (v := .int .u32 u.num) rfl)); have M4 := hid m4; clear m4))
  all_goals (
    have a4 := EncW.Made.many MD.out KD.out M4.out
    have a5 := EncW.Made.many a4.1 a4.2 M5.out
    have a6 := EncW.Made.many a5.1 a5.2 M6.out
    have A6 := hid a6
    have L6 := hid (show ([u.kind % 256] ++ w4 u.code ++ w4 u.ses ++ w4 u.num).length = 13 by simp [w4_len])
    clear a4 a5 a6 M4 M5 M6 H4 H5 MD HD SD KD WC M3 H3 S3 K3 c1 c2 c3 dd d4 d5 d6
    generalize [u.kind % 256] ++ w4 u.code ++ w4 u.ses ++ w4 u.num = A at *
    obtain ⟨p6, q6, rfl⟩ := A6.out.1.shape
    have c4 := H6.out.cell 4 (v := .int .i64 u.flags) rfl
    have c5 := H6.out.cell 5 (v := .slice sp u.data.length sc) rfl
    have kt := (Kept.refl [] w6).alloc (.cells (U8 [u.flags % 256, (u.data.length : Int) % 256]).toArray 5)
    have HB := hid (temp_bytes w6 [u.flags % 256, (u.data.length : Int) % 256] (by simp; unfold maxLen; omega))
    have M7 := hid (A6.out.1.kept kt (by simp))
    have K7 := hid (A6.out.2.trans kt)
    have H7 := hid (kt.has H6.out (by simp))
    clear kt
    go_wp2_with (at_builtin; (show wpList _ _ _ (Oper.mk _ (Op.call { callee := .builtin .append, args := _, argTypes := _ }) _ _ _ _ :: _) _ _); refine wpList_many rfl _ _ rfl (.slice p6 A.length q6) A _ [u.flags % 256, (u.data.length : Int) % 256] M7.out.1 HB.out rfl rfl (by rw [L6.out]; simp) ?_)
    intro v8 w8 hm
    have A8 := hid (EncW.Made.many M7.out K7.out hm)
    have H8' := hid (EncW.Many.has hm M7.out.1 H7.out (by decide))
    have L8 := hid (show (A ++ [u.flags % 256, (u.data.length : Int) % 256]).length = 15 by rw [List.length_append, L6.out]; rfl)
    clear hm M7 K7 H7 H6 A6 HB c4 c5
    generalize A ++ [u.flags % 256, (u.data.length : Int) % 256] = B at *
    obtain ⟨p8, q8, rfl⟩ := A8.out.1.shape
    have c5 := H8'.out.cell 5 (v := .slice sp u.data.length sc) rfl
    have S8 := hid (SB0.out.kept A8.out.2 (by simp))
    go_wp2_with (at_builtin; refine wpList_many rfl _ _ rfl (.slice p8 B.length q8) B _ u.data A8.out.1.1 S8.out rfl rfl (by rw [L8.out]; have := H8.out; omega) ?_)
    intro v9 w9 hm
    have A9 := hid (show Made w w9 v9 (body u) ∧ Kept [] w w9 by rw [BD.out]; exact EncW.Made.many A8.out.1 A8.out.2 hm)
    have B9 := hid A9.out.1.bytes
    obtain ⟨p9, q9, rfl⟩ := A9.out.1.shape
    clear hm c5 S8 H8' A8
    go_wp2_with fail
    refine (SL.out _ _ B9.out).mono ?_
    rintro e wa ⟨va, rfl, ka, ma⟩
    have R := hid (And.intro (A9.out.2.trans ka) (show Made w wa va (frame u) from ⟨ma.1, fun k hk => Nat.le_trans A9.out.2.size (ma.2 k hk)⟩))
    clear ka ma
    go_wp2_with fail
    go_ret2
    exact ⟨_, rfl, R.out.1, R.out.2⟩)
end UEnc
end Go.Proofs.YtinaliblnihpbaaGreat

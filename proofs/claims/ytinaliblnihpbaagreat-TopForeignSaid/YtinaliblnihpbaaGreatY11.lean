/- The walks and the plain laws of DevT, DevK, DevH, DevI. -/
import Derived.Test.YtinaliblnihpbaaGreatY10
set_option linter.unusedVariables false
set_option linter.unusedSimpArgs false
open Go.Lib (hid)
namespace Go.Proofs.YtinaliblnihpbaaGreat
namespace DevC
open Go Go.RowKit Gf SlC CrcW SlM Hp Sl Ow DiagC ValveC DogC Kx TM MemC CellC HostC EncW ParW UnW UEnc NumW UDecW
variable {G : Nat → Prop} {w w' w'' : World} {b d v g o lg k c m mb : Nat} {s : Value} {x y : D}
set_option maxRecDepth 100000 in
set_option maxHeartbeats 3200000 in
theorem reply20_call (num : Int) (data : List Int) (vd : Value) (hn : 1 ≤ x.v.n ∧ x.v.n ≤ 8) (hl : Law (x.reply 20 num data)) (h : DAt G w b d v g o lg k c m mb s x) (hd : Bytes w vd data) (hb : By data) :
    Calls Tryz.prog 188 #[.pointer (some ⟨b, 0, none⟩), .int .i64 20, .int .u32 num, vd] w fun e w' => ∃ f, e = .returned f ∧ Kept [] w w' ∧ Made w w' f (frame (x.reply 20 num data)) := by
  obtain ⟨dp, dc, rfl, hdc⟩ := sl_shape hd
  have er : x.reply 20 num data = ⟨20, x.p.code, x.ses, num, flagsOf x.v x.hold, data⟩ := by unfold D.reply; rw [if_pos rfl]
  rw [er] at hl ⊢
  have c0 := h.top.cell 0 (v := .int .u32 x.p.code) rfl
  have c12 := h.top.cell 12 (v := .int .u32 x.ses) rfl
  have HH := hid h
  have HN := hid hn
  have HL := hid hl
  have HD := hid hd
  have HB := hid hb
  clear h hl hd hb hn er
  go_enter Tryz.func188, Tryz.ntmps188
  go_wp2_with fail
  have dd : w.drew.cell? ⟨b, 0, none⟩ = some (.int .u32 x.p.code) ∧ w.drew.cell? ⟨b, 12, none⟩ = some (.int .u32 x.ses) := ⟨c0, c12⟩
  go_region_held3 (fun w' => w'.cell? ⟨b, 0, none⟩ = some (.int .u32 x.p.code) ∧ w'.cell? ⟨b, 12, none⟩ = some (.int .u32 x.ses)) (first | with_reducible assumption | go_keep) (fail)
  have hU := hid ((Has.new w 63 [.int .i64 20, .int .u32 x.p.code, .int .u32 x.ses, .int .u32 num, .int .i64 0, .slice dp data.length dc]).drew)
  have K2 := hid (((Kept.refl [] w).alloc (.cells #[.int .i64 20, .int .u32 x.p.code, .int .u32 x.ses, .int .u32 num, .int .i64 0, .slice dp data.length dc] 63)).drew)
  clear dd c0 c12
  change Exit.then _ _ Exit.normal _ (w.alloc (.cells #[.int .i64 20, .int .u32 x.p.code, .int .u32 x.ses, .int .u32 num, .int .i64 0, .slice dp data.length dc] 63)).drew
  have hU : Hid (Has (w.alloc (.cells #[.int .i64 20, .int .u32 x.p.code, .int .u32 x.ses, .int .u32 num, .int .i64 0, .slice dp data.length dc] 63)).drew w.heap.size 63 [.int .i64 20, .int .u32 x.p.code, .int .u32 x.ses, .int .u32 num, .int .i64 0, .slice dp data.length dc]) := hU
  have K2 : Hid (Kept [] w (w.alloc (.cells #[.int .i64 20, .int .u32 x.p.code, .int .u32 x.ses, .int .u32 num, .int .i64 0, .slice dp data.length dc] 63)).drew) := K2
  generalize (w.alloc (.cells #[.int .i64 20, .int .u32 x.p.code, .int .u32 x.ses, .int .u32 num, .int .i64 0, .slice dp data.length dc] 63)).drew = w2 at hU K2 ⊢
  have RR := hid (Nat.le_refl w.heap.size)
  obtain ⟨R, hR⟩ : ∃ R, R = w.heap.size := ⟨_, rfl⟩
  rw [← hR] at hU ⊢
  have RR := hid (Nat.le_of_eq hR.symm)
  clear hR
  have D2 := hid (HD.out.kept K2.out (by simp))
  have H2 := hid (HH.out.nil K2.out)
  go_wp2_with fail
  refine (flags_call HN.out.1 HN.out.2 H2.out).mono ?_
  rintro e w3 ⟨rfl, k3⟩
  have K3 := hid (K2.out.trans k3)
  have U3 := hid (k3.has hU.out (by simp))
  have D3 := hid (D2.out.kept k3 (by simp))
  clear k3
  have y4 := U3.out.cell 4 rfl
  have z4 := U3.out.free 4
  have y0 := U3.out.cell 0 rfl
  have y1 := U3.out.cell 1 rfl
  have y2 := U3.out.cell 2 rfl
  have y3 := U3.out.cell 3 rfl
  have y5 := U3.out.cell 5 rfl
  go_wp2_with fail
  have kk := (Kept.refl [R] w3).set ⟨R, 4, none⟩ (.int .i64 (flagsOf x.v x.hold)) (by simp)
  have D4 := hid (HD.out.kept (K3.out.fresh kk (fun i hi hl => by simp only [List.mem_singleton] at hi; subst hi; exact absurd hl (Nat.not_lt.2 RR.out))) (by simp))
  have K4 := hid (K3.out.fresh kk (fun i hi hl => by simp only [List.mem_singleton] at hi; subst hi; exact absurd hl (Nat.not_lt.2 RR.out)))
  clear kk
  refine (UEnc.encode_call ⟨20, x.p.code, x.ses, num, flagsOf x.v x.hold, data⟩ HL.out (.slice dp data.length dc) _ D4.out HB.out).mono ?_
  rintro e w5 ⟨v5, rfl, k5, m5⟩
  go_wp2_with fail
  go_ret
  exact ⟨v5, rfl, K4.out.trans k5, m5.1, fun i hi => Nat.le_trans K4.out.size (m5.2 i hi)⟩
theorem law22 (hp : POk x.p) : Law (x.reply 22 0 []) := by
  have := hp.code
  have e : x.reply 22 0 [] = ⟨22, x.p.code, x.ses, 0, 0, []⟩ := by unfold D.reply; rw [if_neg (by decide)]
  rw [e]
  refine .inr (.inr (.inr (.inr (.inr (.inr (.inr (.inr (.inr (.inr ⟨rfl, ?_, .inr (.inr ⟨rfl, rfl⟩), .inl rfl, .inr (.inr ⟨rfl, rfl⟩), Int.le_refl _, (by show (0 : Int) ≤ 15; decide), fun _ => rfl⟩)))))))))
  show x.p.code ≠ 0; omega
theorem law17 (hp : POk x.p) (hs : 0 < x.ses) : Law (x.offer (sigB x.p)) := by
  have := hp.code
  have e : x.offer (sigB x.p) = ⟨17, x.p.code, x.ses, 0, 0, sigB x.p⟩ := by unfold D.offer D.reply; rw [if_neg (by decide)]
  rw [e]
  refine .inr (.inr (.inl ⟨rfl, ?_, .inl ⟨rfl, rfl⟩, .inr (.inl ⟨rfl, hs⟩), .inr (.inr ⟨rfl, rfl⟩), Int.le_refl _, (by show (0 : Int) ≤ 15; decide), fun _ => rfl⟩))
  show x.p.code ≠ 0; omega
theorem law18 (hp : POk x.p) (hs : 0 < x.ses) : Law (x.reply 18 0 []) := by
  have := hp.code
  have e : x.reply 18 0 [] = ⟨18, x.p.code, x.ses, 0, 0, []⟩ := by unfold D.reply; rw [if_neg (by decide)]
  rw [e]
  refine .inr (.inr (.inr (.inr (.inl ⟨rfl, ?_, .inr (.inr ⟨rfl, rfl⟩), .inr (.inl ⟨rfl, hs⟩), .inr (.inr ⟨rfl, rfl⟩), Int.le_refl _, (by show (0 : Int) ≤ 15; decide), fun _ => rfl⟩))))
  show x.p.code ≠ 0; omega
theorem law19 (hp : POk x.p) (hs : 0 < x.ses) : Law (x.reply 19 0 []) := by
  have := hp.code
  have e : x.reply 19 0 [] = ⟨19, x.p.code, x.ses, 0, 0, []⟩ := by unfold D.reply; rw [if_neg (by decide)]
  rw [e]
  refine .inr (.inr (.inr (.inr (.inr (.inl ⟨rfl, ?_, .inr (.inr ⟨rfl, rfl⟩), .inr (.inl ⟨rfl, hs⟩), .inr (.inr ⟨rfl, rfl⟩), Int.le_refl _, (by show (0 : Int) ≤ 15; decide), fun _ => rfl⟩)))))
  show x.p.code ≠ 0; omega
theorem law20 (hp : POk x.p) (hs : 0 < x.ses) {num : Int} {l : List Int} (hn : 0 < num) (h1 : 1 ≤ l.length) (h8 : l.length ≤ 8) : Law (x.reply 20 num l) := by
  have := hp.code
  have e : x.reply 20 num l = ⟨20, x.p.code, x.ses, num, flagsOf x.v x.hold, l⟩ := by unfold D.reply; rw [if_pos rfl]
  rw [e]
  refine .inr (.inr (.inr (.inr (.inr (.inr (.inr (.inl ⟨rfl, ?_, .inr (.inl ⟨rfl, h1, h8⟩), .inr (.inl ⟨rfl, hs⟩), .inr (.inl ⟨rfl, hn⟩), (flags_range _ _).1, (flags_range _ _).2, fun e => by cases e⟩)))))))
  show x.p.code ≠ 0; omega
theorem law21 (hp : POk x.p) (hs : 0 < x.ses) {num : Int} (hn : 0 < num) : Law (x.reply 21 num []) := by
  have := hp.code
  have e : x.reply 21 num [] = ⟨21, x.p.code, x.ses, num, 0, []⟩ := by unfold D.reply; rw [if_neg (by decide)]
  rw [e]
  refine .inr (.inr (.inr (.inr (.inr (.inr (.inr (.inr (.inr (.inl ⟨rfl, ?_, .inr (.inr ⟨rfl, rfl⟩), .inr (.inl ⟨rfl, hs⟩), .inr (.inl ⟨rfl, hn⟩), Int.le_refl _, (by show (0 : Int) ≤ 15; decide), fun _ => rfl⟩)))))))))
  show x.p.code ≠ 0; omega
set_option maxRecDepth 100000 in
theorem offer_call (hp : POk x.p) (hs : 0 < x.ses) (h : DAt G w b d v g o lg k c m mb s x) :
    Calls Tryz.prog 187 #[.pointer (some ⟨b, 0, none⟩)] w fun e w' => ∃ f, e = .returned f ∧ Kept [] w w' ∧ Made w w' f (frame (x.offer (sigB x.p))) := by
  have c0 := h.top.cell 0 (v := .int .u32 x.p.code) rfl
  have c1 := h.top.cell 1 (v := .int .i64 x.p.out) rfl
  have c2 := h.top.cell 2 (v := .int .i64 x.p.inn) rfl
  have c3 := h.top.cell 3 (v := .int .i64 x.p.watch) rfl
  have c4 := h.top.cell 4 (v := .int .u32 x.p.count) rfl
  have HH := hid h
  have HP := hid hp
  have HL := hid (law17 hp hs)
  clear h hp hs
  go_enter Tryz.func187, Tryz.ntmps187
  go_wp2_with fail
  refine (signature_call x.p HP.out _).mono ?_
  rintro e w1 ⟨rfl, k1⟩
  have K1 := hid k1
  have H1 := hid (HH.out.nil k1)
  clear c0 c1 c2 c3 c4 k1
  go_wp2_with fail
  refine (bytes_call (sigN x.p : Nat) w1).mono ?_
  rintro e w3 ⟨v3, rfl, k3, m3⟩
  have K3 := hid (K1.out.trans k3)
  have H3 := hid (H1.out.nil k3)
  have M3 := hid (show Made w1 w3 v3 (sigB x.p) from m3)
  clear k3 m3
  go_wp2_with fail
  refine (reply_call 17 0 (sigB x.p) v3 (by decide) HL.out H3.out M3.out.bytes (w4_by _)).mono ?_
  rintro e w5 ⟨f, rfl, k5, m5⟩
  go_wp2_with fail
  go_ret
  exact ⟨f, rfl, K3.out.trans k5, m5.1, fun i hi => Nat.le_trans K3.out.size (m5.2 i hi)⟩
theorem stuck_p (x : D) : x.stuck.1.p = x.p := by unfold D.stuck; (repeat' split) <;> rfl
set_option maxRecDepth 100000 in
theorem odds_call (hx : DOk x) (n : Int) (hG : Opn G w) (h : DAt G w b d v g o lg k c m mb s x) :
    Calls Tryz.prog 168 #[.pointer (some ⟨b, 0, none⟩), .int .i64 n] w fun e w' => ∃ f, e = .returned (.tuple #[f, .int .i64 (x.odds n).2.2]) ∧ KG G w w' ∧ DAt G w' b d v g o lg k c m mb s (x.odds n).1 ∧ FrameOf w w' f (x.odds n).2.1 := by
  have SC := hid (stuck_call hx.st hx.odd.1 hx.odd.2 hG h)
  have LW := hid (law22 (x := x.stuck.1) (by rw [stuck_p]; exact hx.p))
  have HG := hid hG
  unfold D.odds
  clear hx hG h
  generalize x.stuck = y at SC LW ⊢
  obtain ⟨y, q⟩ := y
  go_enter Tryz.func168, Tryz.ntmps168
  go_wp2_with fail
  refine SC.out.mono ?_
  rintro e w1 ⟨rfl, k1, h1⟩
  have K1 := hid k1
  have H1 := hid h1
  clear k1 h1
  go_wp2_with fail
  refine (reply_call 22 0 [] (.slice none 0 0) (by decide) LW.out H1.out (bytes_none _) (by intro z hz; cases hz)).mono ?_
  rintro e w5 ⟨f, rfl, k5, m5⟩
  have M5 := hid m5
  have K5 := hid k5
  clear k5 m5
  obtain ⟨p5, n5, rfl⟩ := M5.out.shape
  go_wp2_with fail
  go_ret2
  exact ⟨_, rfl, K1.out.trans (.nil K5.out), H1.out.nil K5.out, M5.out.1, fun i hi => Nat.le_trans K1.out.size (M5.out.2 i hi)⟩
end DevC
namespace DevC
open Go Go.RowKit Gf SlC CrcW SlM Hp Sl Ow DiagC ValveC DogC Kx TM MemC CellC HostC EncW ParW UnW UEnc NumW UDecW
variable {x y : D}
theorem z0 : (0 : Int) ≤ 0 ∧ (0 : Int) < 4294967296 := by decide
theorem z4 : (0 : Int) ≤ 0 ∧ (0 : Int) < 4 := by decide
theorem DOk.zc (h : DOk x) : (0 : Int) ≤ 0 ∧ (0 : Int) ≤ x.p.count := ⟨Int.le_refl _, by have := h.p.count; omega⟩
theorem ack_n (z : V) : z.ack.n = z.n := by unfold V.ack; split <;> rfl
theorem take_n (z : V) (l : List Int) : (z.take l).n = z.n := by unfold V.take; split <;> rfl
theorem holds_n (z : V) (q : Bool) : (z.holds q).n = z.n := rfl
theorem DOk.trip (h : DOk x) (c : Int) : DOk (x.trip c) :=
  ⟨h.p, h.st, h.ses, h.live, h.num, h.sent, h.odd, (trip_n _ _).trans h.vn, h.len, h.byt, h.cmax, h.cval⟩
theorem DOk.alive (h : DOk x) : DOk x.alive :=
  ⟨h.p, h.st, h.ses, h.live, h.num, h.sent, z4, h.vn, h.len, h.byt, h.cmax, h.cval⟩
theorem DOk.odded (h : DOk x) (hm : x.odd + 1 < 4) : DOk { x with odd := x.odd + 1 } :=
  ⟨h.p, h.st, h.ses, h.live, h.num, h.sent, ⟨by have := h.odd; show 0 ≤ x.odd + 1; omega, hm⟩, h.vn, h.len, h.byt, h.cmax, h.cval⟩
theorem DOk.leave (h : DOk x) (o : Int) {s : Int} (hs : s = 1 ∨ s = 5) : DOk (({ x with odd := o } : D).leave s) :=
  ⟨h.p, by show s = 1 ∨ s = 2 ∨ s = 3 ∨ s = 4 ∨ s = 5 ∨ s = 6; omega, z0, fun e => by (change s = 2 ∨ s = 3 ∨ s = 4 at e); omega, h.zc, ⟨Int.le_refl _, Int.le_refl _⟩, z4, (run_n _ _).trans h.vn, h.len, h.byt, h.cmax, h.cval⟩
theorem DOk.stuck (h : DOk x) : DOk x.stuck.1 := by
  unfold D.stuck
  split
  · split
    · rename_i hlt; exact h.odded hlt
    · split
      · exact (h.trip 131).leave (x.odd + 1) (.inl rfl)
      · exact h.leave (x.odd + 1) (.inl rfl)
  · exact h
theorem next_spec (c : C) (m : M) : (c.next m).1.max = c.max ∧ (0 ≤ c.value → 0 ≤ (c.next m).1.value) ∧ ((c.next m).2.2.2 = 0 → (c.next m).2.2.1 = c.value + 1 ∧ c.value < c.max) ∧ ((c.next m).2.2.2 = 80 → (c.next m).1 = c ∧ (c.next m).2.1 = m) ∧ ((c.next m).2.2.2 = 0 ∨ (c.next m).2.2.2 = 80 ∨ (c.next m).2.2.2 = 70) := by
  unfold C.next
  split
  · exact ⟨rfl, fun h => h, fun e => by simp at e, fun e => by simp at e, .inr (.inr rfl)⟩
  · split
    · exact ⟨rfl, fun h => h, fun e => by simp at e, fun _ => ⟨rfl, rfl⟩, .inr (.inl rfl)⟩
    · rename_i hlt
      split
      · exact ⟨rfl, fun h => by show 0 ≤ c.value + 1; omega, fun _ => ⟨rfl, by omega⟩, fun e => by simp at e, .inl rfl⟩
      · exact ⟨rfl, fun h => h, fun e => by simp at e, fun e => by simp at e, .inr (.inr rfl)⟩
theorem DOk.newlife (h : DOk x) (c : C) (m : M) (hm : c.max = x.c.max) (hc : 0 ≤ c.value) : DOk { x.fresh with m := m, c := c } :=
  ⟨h.p, .inl rfl, z0, fun e => by (change (1 : Int) = 2 ∨ (1 : Int) = 3 ∨ (1 : Int) = 4 at e); omega, h.zc, ⟨Int.le_refl _, Int.le_refl _⟩, z4, rfl, by have := h.p.inn; show ((List.replicate x.p.inn.toNat (0 : Int)).length : Int) = x.p.inn; simp; omega, fun z hz => by (change z ∈ List.replicate x.p.inn.toNat (0 : Int) at hz); obtain ⟨_, rfl⟩ := List.mem_replicate.1 hz; omega, hm ▸ h.cmax, hc⟩
theorem DOk.newdown (h : DOk x) (c : C) (m : M) (hm : c.max = x.c.max) (hc : 0 ≤ c.value) : DOk ({ x with m := m, c := c } : D).down :=
  ⟨h.p, .inr (.inr (.inr (.inr (.inr rfl)))), z0, fun e => by (change (6 : Int) = 2 ∨ (6 : Int) = 3 ∨ (6 : Int) = 4 at e); omega, h.zc, ⟨Int.le_refl _, Int.le_refl _⟩, z4, rfl, by have := h.p.inn; show ((List.replicate x.p.inn.toNat (0 : Int)).length : Int) = x.p.inn; simp; omega, fun z hz => by (change z ∈ List.replicate x.p.inn.toNat (0 : Int) at hz); obtain ⟨_, rfl⟩ := List.mem_replicate.1 hz; omega, hm ▸ h.cmax, hc⟩
theorem DOk.newses (h : DOk x) (c : C) (m : M) (s : Int) (hs : 0 < s) (hs2 : s ≤ x.c.max) (hm : c.max = x.c.max) (hc : 0 ≤ c.value) : DOk ({ ({ x with c := c, m := m } : D).leave 2 with ses := s }) :=
  ⟨h.p, .inr (.inl rfl), ⟨by show 0 ≤ s; omega, by have := h.cmax; show s < 4294967296; omega⟩, fun _ => hs, h.zc, ⟨Int.le_refl _, Int.le_refl _⟩, z4, (run_n _ _).trans h.vn, h.len, h.byt, hm ▸ h.cmax, hc⟩
theorem DOk.begin (h : DOk x) (sig : List Int) : DOk (x.begin sig).1 := by
  obtain ⟨a1, a2, a3, a4, a5⟩ := next_spec x.c x.m
  have hc := a2 h.cval
  have := h.cval
  unfold D.begin
  split
  · exact (h.trip 80).leave x.odd (.inr rfl)
  · split
    · rename_i h0
      obtain ⟨b1, b2⟩ := a3 h0
      exact h.newses _ _ _ (by omega) (by omega) a1 hc
    · exact h.newdown _ _ a1 hc
theorem DOk.agree (h : DOk x) : DOk x.agree := by
  unfold D.agree
  split
  · rename_i h2
    have := h.live (.inl h2)
    exact DOk.alive ⟨h.p, .inr (.inr (.inl rfl)), h.ses, fun _ => this, h.num, h.sent, h.odd, h.vn, h.len, h.byt, h.cmax, h.cval⟩
  · exact h
theorem DOk.go (h : DOk x) : DOk x.go := by
  unfold D.go
  split
  · rename_i h2
    have := h.live (.inr (.inl h2))
    exact DOk.alive ⟨h.p, .inr (.inr (.inr (.inl rfl))), h.ses, fun _ => this, h.num, h.sent, h.odd, (run_n _ _).trans h.vn, h.len, h.byt, h.cmax, h.cval⟩
  · exact h
theorem feed_sent (h : DOk x) (u : U) (h1 : u.num > x.num) (h2 : u.num < x.p.count) : IntKind.u32.wrap (x.sent + 1) = x.sent + 1 := by
  have := h.sent; have := h.p.count; rw [IntKind.wrap_u32]; omega
theorem DOk.feed (h : DOk x) (u : U) (hu : u.num > x.num) (hc : u.num < x.p.count) : DOk (x.feed u) := by
  have e := feed_sent h u hu hc
  have h1 := h.num; have h2 := h.sent
  exact ⟨h.p, h.st, h.ses, h.live, ⟨by show 0 ≤ u.num; omega, by show u.num ≤ x.p.count; omega⟩, ⟨by show 0 ≤ IntKind.u32.wrap (x.sent + 1); omega, by show IntKind.u32.wrap (x.sent + 1) ≤ u.num; omega⟩, z4, ((take_n _ _).trans (holds_n _ _)).trans h.vn, h.len, h.byt, h.cmax, h.cval⟩
theorem DOk.last (h : DOk x) (u : U) (hc : u.num = x.p.count) : DOk (x.last u) := by
  have h3 := h.p.count
  exact ⟨h.p, h.st, h.ses, h.live, ⟨by show 0 ≤ u.num; omega, by show u.num ≤ x.p.count; omega⟩, ⟨by show 0 ≤ x.p.count; omega, by show x.p.count ≤ u.num; omega⟩, z4, (trip_n _ _).trans h.vn, h.len, h.byt, h.cmax, h.cval⟩
theorem DOk.done (h : DOk x) : DOk { x with v := x.v.run false, state := 5 } :=
  ⟨h.p, .inr (.inr (.inr (.inr (.inl rfl)))), h.ses, fun e => by (change (5 : Int) = 2 ∨ (5 : Int) = 3 ∨ (5 : Int) = 4 at e); omega, h.num, h.sent, h.odd, (run_n _ _).trans h.vn, h.len, h.byt, h.cmax, h.cval⟩
theorem DOk.asked (h : DOk x) (sig : List Int) (u : U) : DOk (x.asked sig u).1 := by
  unfold D.asked
  split
  · split
    · split
      · exact h.stuck.begin sig
      · split
        · exact h.stuck
        · exact h.stuck
    · exact h.begin sig
  · exact h.stuck
theorem DOk.take (h : DOk x) (sig : List Int) (u : U) : DOk (x.take sig u).1 := by
  unfold D.take
  split
  · exact h.asked sig u
  · split
    · unfold D.echoed; split
      · exact h.agree
      · exact h.stuck
    · split
      · exact h.go
      · split
        · rename_i q; exact h.feed u q.2.1.2.2 q.2.2.2
        · split
          · rename_i q; exact (h.last u q.2.2).done
          · exact h.stuck
theorem DOk.receive (h : DOk x) (sig : List Int) (u : U) (e : Int) : DOk (x.receive sig u e).1 := by
  unfold D.receive
  (repeat' split) <;> first | exact h | exact h.take sig u
theorem DOk.write (h : DOk x) (l : List Int) (hb : Bool) (hl : By l) : DOk (x.write l hb).1 := by
  unfold D.write
  split
  · exact h
  · split
    · exact h
    · rename_i hh; exact ⟨h.p, h.st, h.ses, h.live, h.num, h.sent, h.odd, h.vn, by simpa using hh, hl, h.cmax, h.cval⟩
theorem DOk.since (h : DOk x) (n : Int) : DOk { x with since := n } := ⟨h.p, h.st, h.ses, h.live, h.num, h.sent, h.odd, h.vn, h.len, h.byt, h.cmax, h.cval⟩
theorem DOk.tick (h : DOk x) (n : Int) : DOk (x.tick n).1 := by
  unfold D.tick
  split
  · exact h
  · show DOk (if barks x.p.watch x.since n = true then ({ x with since := ticked x.p.watch x.since n } : D).trip 100 else { x with since := ticked x.p.watch x.since n })
    split
    · exact (h.since _).trip 100
    · exact h.since _
theorem DOk.ack (h : DOk x) : DOk x.ack.1 := by
  unfold D.ack
  split
  · exact h
  · exact ⟨h.p, h.st, h.ses, h.live, h.num, h.sent, h.odd, (ack_n _).trans h.vn, h.len, h.byt, h.cmax, h.cval⟩
theorem open_low (m : M) (h : ∀ k, 0 ≤ m.word k) : 0 ≤ m.open.2.1 := by
  have h0 := h 0; have h1 := h 1
  unfold M.open
  (repeat' split) <;> first | exact Int.le_refl _ | exact h0 | exact h1 | (show 0 ≤ max (m.word 0) (m.word 1); omega)
theorem DOk.reset (h : DOk x) (hm : MOk x.m) (n : Int) : DOk (x.reset n).1 := by
  have hw : ∀ k, 0 ≤ (x.reset0 n).m.word k := fun k => by
    have : (x.reset0 n).m.word k = x.m.word k := by unfold D.reset0; split <;> rfl
    rw [this]; exact (CellC.MOk.word hm k).1
  have ho := open_low _ hw
  unfold D.reset
  split
  · exact h.newlife ⟨x.c.max, _, false⟩ _ rfl ho
  · have h1 : DOk x.fresh := by have := h.newlife x.c x.m rfl h.cval; exact this
    exact h1.newdown x.c _ rfl h.cval
theorem DOk.arm (h : DOk x) (n : Int) : DOk { x with m := x.m.arm n } := ⟨h.p, h.st, h.ses, h.live, h.num, h.sent, h.odd, h.vn, h.len, h.byt, h.cmax, h.cval⟩
theorem DOk.new (p : P) (hp : POk p) (mx : Int) (h : 0 < mx) (h2 : mx < 4294967296) : DOk (D.new p mx) :=
  ⟨hp, .inl rfl, z0, fun e => by (change (1 : Int) = 2 ∨ (1 : Int) = 3 ∨ (1 : Int) = 4 at e); omega, ⟨Int.le_refl _, by have := hp.count; show (0 : Int) ≤ p.count; omega⟩, ⟨Int.le_refl _, Int.le_refl _⟩, z4, rfl, by have := hp.inn; show ((List.replicate p.inn.toNat (0 : Int)).length : Int) = p.inn; simp; omega, fun z hz => by (change z ∈ List.replicate p.inn.toNat (0 : Int) at hz); obtain ⟨_, rfl⟩ := List.mem_replicate.1 hz; omega, ⟨h, h2⟩, Int.le_refl _⟩
end DevC
namespace DevC
open Go Go.RowKit Gf SlC CrcW SlM Hp Sl Ow DiagC ValveC DogC Kx TM MemC CellC HostC EncW ParW UnW UEnc NumW UDecW
variable {G : Nat → Prop} {w w' w'' : World} {b d v g o lg k c m mb : Nat} {s : Value} {x y : D}
def Rep (G : Nat → Prop) (w w' : World) (b m mb : Nat) (e : Ending) (r : D × Option U × Int) : Prop :=
  ∃ f, e = .returned (.tuple #[f, .int .i64 r.2.2]) ∧ KG (GM G m mb) w w' ∧ devOf G w' b m mb r.1 ∧ FrameOf w w' f r.2.1
theorem Made.after {w w1 w2 : World} {f : Value} {l : List Int} (q : w.heap.size ≤ w1.heap.size) (h : Made w1 w2 f l) : Made w w2 f l := ⟨h.1, fun i hi => Nat.le_trans q (h.2 i hi)⟩
theorem FrameOf.after {w w1 w2 : World} {f : Value} {o : Option U} (q : w.heap.size ≤ w1.heap.size) (h : FrameOf w1 w2 f o) : FrameOf w w2 f o := by
  cases o with
  | none => exact h
  | some u => exact Made.after q h
theorem FrameOf.shape {w w1 : World} {f : Value} {o : Option U} (h : FrameOf w w1 f o) : ∃ p n c, f = .slice p n c := by
  cases o with
  | none => exact ⟨_, _, _, h⟩
  | some u => obtain ⟨p, c, e⟩ := Made.shape h; exact ⟨p, _, c, e⟩
theorem kgC (q : Kept [c, m, mb] w w') (gc : G c) : KG (GM G m mb) w w' := .of q (fun i hi => by simp at hi; rcases hi with rfl | rfl | rfl; exact .inl gc; exact .inr (.inl rfl); exact .inr (.inr rfl))
set_option maxRecDepth 100000 in
theorem beginX (hx : DOk x) (hG : Opn G w) (h : DAt G w b d v g o lg k c m mb s x) (hn : (x.c.next x.m).2.2.2 = 80) :
    Calls Tryz.prog 189 #[.pointer (some ⟨b, 0, none⟩)] w fun e w' => Rep G w w' b m mb e (x.begin (sigB x.p)) := by
  have eb : x.begin (sigB x.p) = (((x.trip 80).leave 5), some (((x.trip 80).leave 5).reply 22 0 []), 80) := by unfold D.begin; rw [if_pos hn]
  rw [eb]
  obtain ⟨a1, a2, a3, a4, a5⟩ := next_spec x.c x.m
  obtain ⟨b1, b2⟩ := a4 hn
  have NC := hid (CellC.next_call c m mb x.c x.m w h.mem h.cel hx.cval hx.cmax.2)
  rw [hn, b1, b2] at NC
  have HH := hid h
  have HX := hid hx
  have HG := hid hG
  have c7 := h.top.cell 7 (v := .pointer (some ⟨c, 0, none⟩)) rfl
  have L22 := hid (law22 (x := (x.trip 80).leave 5) hx.p)
  clear hx hG h hn eb a1 a2 a3 a4 a5 b1 b2
  go_enter Tryz.func189, Tryz.ntmps189
  go_wp2_with fail
  refine NC.out.mono ?_
  rintro e w1 ⟨rfl, k1, m1, i1⟩
  have H1 := hid (show DAt G w1 b d v g o lg k c m mb s x from HH.out.mems k1 m1 i1 rfl)
  have K1 := hid (kgC k1 HH.out.gc)
  clear k1 m1 i1
  go_wp2_with fail
  refine (trip_call 80 (by decide) (by decide) (HG.out.kg K1.out) H1.out).mono ?_
  rintro e w2 ⟨rfl, k2, h2⟩
  have H2 := hid h2
  have K2 := hid (K1.out.trans (kgM k2))
  clear k2 h2
  go_wp2_with fail
  refine (leave_call 5 H2.out).mono ?_
  rintro e w3 ⟨rfl, k3, h3⟩
  have H3 := hid h3
  have K3 := hid (K2.out.trans (kgM k3))
  clear k3 h3
  go_wp2_with fail
  refine (reply_call 22 0 [] (.slice none 0 0) (by decide) L22.out H3.out (bytes_none _) (by intro z hz; cases hz)).mono ?_
  rintro e w5 ⟨f, rfl, k5, m5⟩
  have M5 := hid m5
  have K5 := hid k5
  clear k5 m5
  obtain ⟨p5, n5, rfl⟩ := M5.out.shape
  go_wp2_with fail
  go_ret2
  exact ⟨_, rfl, K3.out.trans (.nil K5.out), (H3.out.nil K5.out).dev, Made.after K3.out.size M5.out⟩
set_option maxRecDepth 100000 in
theorem beginY (hx : DOk x) (hG : Opn G w) (h : DAt G w b d v g o lg k c m mb s x) (hn : (x.c.next x.m).2.2.2 = 0) :
    Calls Tryz.prog 189 #[.pointer (some ⟨b, 0, none⟩)] w fun e w' => Rep G w w' b m mb e (x.begin (sigB x.p)) := by
  have eb : x.begin (sigB x.p) = ({ ({ x with c := (x.c.next x.m).1, m := (x.c.next x.m).2.1 } : D).leave 2 with ses := (x.c.next x.m).2.2.1 },
      some (({ ({ x with c := (x.c.next x.m).1, m := (x.c.next x.m).2.1 } : D).leave 2 with ses := (x.c.next x.m).2.2.1 } : D).offer (sigB x.p)), 0) := by unfold D.begin; rw [if_neg (by omega), if_pos hn]
  rw [eb]
  obtain ⟨a1, a2, a3, a4, a5⟩ := next_spec x.c x.m
  obtain ⟨b1, b2⟩ := a3 hn
  have NC := hid (CellC.next_call c m mb x.c x.m w h.mem h.cel hx.cval hx.cmax.2)
  rw [hn] at NC
  have SP := hid (show 0 < (x.c.next x.m).2.2.1 by have := hx.cval; omega)
  have A1 := hid a1
  clear eb hn a1 a2 a3 a4 a5 b1 b2
  generalize x.c.next x.m = r at NC SP A1 ⊢
  obtain ⟨nc, nm, sv, ev⟩ := r
  simp only at NC SP A1 ⊢
  have HH := hid h
  have HX := hid hx
  have HG := hid hG
  have c7 := h.top.cell 7 (v := .pointer (some ⟨c, 0, none⟩)) rfl
  clear hx hG h
  go_enter Tryz.func189, Tryz.ntmps189
  go_wp2_with fail
  refine NC.out.mono ?_
  rintro e w1 ⟨rfl, k1, m1, i1⟩
  have H1 := hid (HH.out.mems k1 m1 i1 A1.out)
  have K1 := hid (kgC k1 HH.out.gc)
  clear k1 m1 i1
  go_wp2_with fail
  refine (leave_call 2 H1.out).mono ?_
  rintro e w3 ⟨rfl, k3, h3⟩
  have H3 := hid h3
  have K3 := hid (K1.out.trans (kgM k3))
  have c12 := H3.out.top.cell 12 (v := .int .u32 0) rfl
  have z12 := H3.out.top.free 12
  clear k3 h3
  go_wp2_with fail
  have H4 := hid (H3.out.set (y := { ({ x with c := nc, m := nm } : D).leave 2 with ses := sv }) 12 (.int .u32 sv) rfl rfl rfl rfl rfl rfl rfl)
  have K4 := hid (K3.out.set (i := 12) (v := .int .u32 sv) (.inl HH.out.gb))
  clear c12 z12
  generalize w3.setCell ⟨b, 12, none⟩ (.int .u32 sv) = w4 at H4 K4 ⊢
  refine (offer_call (x := { ({ x with c := nc, m := nm } : D).leave 2 with ses := sv }) HX.out.p SP.out H4.out).mono ?_
  rintro e w5 ⟨f, rfl, k5, m5⟩
  have M5 := hid m5
  have K5 := hid k5
  clear k5 m5
  obtain ⟨p5, n5, rfl⟩ := M5.out.shape
  go_wp2_with fail
  go_ret2
  exact ⟨_, rfl, K4.out.trans (.nil K5.out), (H4.out.nil K5.out).dev, Made.after K4.out.size M5.out⟩
set_option maxRecDepth 100000 in
theorem beginN (hx : DOk x) (hG : Opn G w) (h : DAt G w b d v g o lg k c m mb s x) (hn : (x.c.next x.m).2.2.2 = 70) :
    Calls Tryz.prog 189 #[.pointer (some ⟨b, 0, none⟩)] w fun e w' => Rep G w w' b m mb e (x.begin (sigB x.p)) := by
  have eb : x.begin (sigB x.p) = (({ x with c := (x.c.next x.m).1, m := (x.c.next x.m).2.1 } : D).down, none, 70) := by unfold D.begin; rw [if_neg (by omega), if_neg (by omega)]
  rw [eb]
  obtain ⟨a1, a2, a3, a4, a5⟩ := next_spec x.c x.m
  have NC := hid (CellC.next_call c m mb x.c x.m w h.mem h.cel hx.cval hx.cmax.2)
  rw [hn] at NC
  have A1 := hid a1
  clear eb hn a1 a2 a3 a4 a5
  generalize x.c.next x.m = r at NC A1 ⊢
  obtain ⟨nc, nm, sv, ev⟩ := r
  simp only at NC A1 ⊢
  have HH := hid h
  have HX := hid hx
  have HG := hid hG
  have c7 := h.top.cell 7 (v := .pointer (some ⟨c, 0, none⟩)) rfl
  clear hx hG h
  go_enter Tryz.func189, Tryz.ntmps189
  go_wp2_with fail
  refine NC.out.mono ?_
  rintro e w1 ⟨rfl, k1, m1, i1⟩
  have H1 := hid (HH.out.mems k1 m1 i1 A1.out)
  have K1 := hid (kgC k1 HH.out.gc)
  clear k1 m1 i1
  go_wp2_with fail
  refine (down_call (x := { x with m := nm, c := nc }) HX.out.p (HG.out.kg K1.out) H1.out).mono ?_
  rintro e w3 ⟨rfl, k3, d3, v3, g3, o3, kk3, s3, h3⟩
  have H3 := hid h3
  have K3 := hid (K1.out.trans (kgM k3))
  clear k3 h3
  go_wp2_with fail
  go_ret2
  exact ⟨_, rfl, K3.out, H3.out.dev, rfl⟩
theorem begin_call (hx : DOk x) (hG : Opn G w) (h : DAt G w b d v g o lg k c m mb s x) :
    Calls Tryz.prog 189 #[.pointer (some ⟨b, 0, none⟩)] w fun e w' => Rep G w w' b m mb e (x.begin (sigB x.p)) := by
  rcases (next_spec x.c x.m).2.2.2.2 with hn | hn | hn
  · exact beginY hx hG h hn
  · exact beginX hx hG h hn
  · exact beginN hx hG h hn
end DevC
namespace DevC
open Go Go.RowKit Gf SlC CrcW SlM Hp Sl Ow DiagC ValveC DogC Kx TM MemC CellC HostC EncW ParW UnW UEnc NumW UDecW
variable {G : Nat → Prop} {w w' w'' : World} {b d v g o lg k c m mb : Nat} {s : Value} {x y : D}
theorem skI {R : Nat} {u : U} {dp : Option Addr} {dc : Nat} (HA : Hid (DAt G w b d v g o lg k c m mb s x)) (UA : Hid (Has w R 63 [.int .i64 u.kind, .int .u32 u.code, .int .u32 u.ses, .int .u32 u.num, .int .i64 u.flags, .slice dp u.data.length dc])) : ∀ w', Kept [] w w' → (w'.cell? ⟨b, 0, none⟩ = some (.int .u32 x.p.code) ∧ w'.cell? ⟨b, 1, none⟩ = some (.int .i64 x.p.out) ∧ w'.cell? ⟨b, 2, none⟩ = some (.int .i64 x.p.inn) ∧ w'.cell? ⟨b, 3, none⟩ = some (.int .i64 x.p.watch) ∧ w'.cell? ⟨b, 4, none⟩ = some (.int .u32 x.p.count) ∧ w'.cell? ⟨R, 5, none⟩ = some (.slice dp u.data.length dc)) := fun w' q => ⟨(q.has HA.out.top (by simp)).cell 0 rfl, (q.has HA.out.top (by simp)).cell 1 rfl, (q.has HA.out.top (by simp)).cell 2 rfl, (q.has HA.out.top (by simp)).cell 3 rfl, (q.has HA.out.top (by simp)).cell 4 rfl, (q.has UA.out (by simp)).cell 5 rfl⟩
set_option maxRecDepth 100000 in
theorem asked0 (hx : DOk x) (hG : Opn G w) (h : DAt G w b d v g o lg k c m mb s x) (u : U) (vd : Value) (hd : Bytes w vd u.data) (hb : By u.data) (h1 : u.data ≠ sigB x.p) :
    Calls Tryz.prog 162 #[.pointer (some ⟨b, 0, none⟩), uval u vd] w fun e w' => Rep G w w' b m mb e (x.odds 91) := by
  obtain ⟨dp, dc, rfl, hdc⟩ := sl_shape hd
  have HH := hid h
  have HX := hid hx
  have HG := hid hG
  have HD := hid hd
  have HB := hid hb
  have hlt := h.top.lt
  have KA := hid ((Kept.refl [] w).alloc (.cells #[.int .i64 u.kind, .int .u32 u.code, .int .u32 u.ses, .int .u32 u.num, .int .i64 u.flags, .slice dp u.data.length dc] 63))
  have UA := hid (Has.new w 63 [.int .i64 u.kind, .int .u32 u.code, .int .u32 u.ses, .int .u32 u.num, .int .i64 u.flags, .slice dp u.data.length dc])
  have Xh1 := hid h1
  clear h hx hG hd hb h1
  unfold uval
  go_enter Tryz.func162, Tryz.ntmps162
  go_wp2_with fail
  have HA := hid (HH.out.nil KA.out)
  have DA := hid (HD.out.kept KA.out (by simp))
  generalize w.alloc (.cells #[.int .i64 u.kind, .int .u32 u.code, .int .u32 u.ses, .int .u32 u.num, .int .i64 u.flags, .slice dp u.data.length dc] 63) = wa at KA UA HA DA ⊢
  obtain ⟨R, hR⟩ : ∃ R, R = w.heap.size := ⟨_, rfl⟩
  rw [← hR] at UA ⊢
  have RR := hid (Nat.le_of_eq hR.symm)
  clear hR hlt
  have SK := hid (skI HA UA)
  have MC := hid (match_call x.p HX.out.p _ u.data _ (DA.out.kept ((Kept.refl [] wa).drew) (by simp)) HB.out)
  rw [show decide (u.data = sigB x.p) = false by have := Xh1.out; simp [this]] at MC
  unfold pval at MC
  have dd := SK.out _ ((Kept.refl [] wa).drew)
  go_region_held3 (fun w' => w'.cell? ⟨b, 0, none⟩ = some (.int .u32 x.p.code) ∧ w'.cell? ⟨b, 1, none⟩ = some (.int .i64 x.p.out) ∧ w'.cell? ⟨b, 2, none⟩ = some (.int .i64 x.p.inn) ∧ w'.cell? ⟨b, 3, none⟩ = some (.int .i64 x.p.watch) ∧ w'.cell? ⟨b, 4, none⟩ = some (.int .u32 x.p.count) ∧ w'.cell? ⟨R, 5, none⟩ = some (.slice dp u.data.length dc)) (with_reducible assumption) ((go_at_call 157; with_reducible refine MC.out.mono ?_; rintro e wm ⟨rfl, km⟩; have KM := hid (((Kept.refl [] wa).drew).trans km); have dd2 := SK.out _ KM.out; clear km))
  clear dd dd2
  have HM := hid (HA.out.nil KM.out)
  have UM := hid (KM.out.has UA.out (by simp))
  have KQ := hid (KG.nil (G := G) (KA.out.trans KM.out))
  have HGM := hid (HG.out.kg KQ.out)
  go_wp2_with fail
  refine (odds_call HX.out 91 HGM.out HM.out).mono ?_
  rintro e w5 ⟨f, rfl, k5, h5, f5⟩
  have K5 := hid (kgM (m := m) (mb := mb) (KQ.out.trans k5))
  have H5 := hid h5
  have F5 := hid (FrameOf.after KQ.out.size f5)
  clear k5 h5 f5
  obtain ⟨p5, l5, n5, rfl⟩ := DevC.FrameOf.shape F5.out
  go_wp2_with fail
  go_ret2
  exact ⟨_, rfl, K5.out, H5.out.dev, F5.out⟩
set_option maxRecDepth 100000 in
theorem asked1 (hx : DOk x) (hG : Opn G w) (h : DAt G w b d v g o lg k c m mb s x) (u : U) (vd : Value) (hd : Bytes w vd u.data) (hb : By u.data) (h1 : u.data = sigB x.p) (h2 : ¬ x.half) :
    Calls Tryz.prog 162 #[.pointer (some ⟨b, 0, none⟩), uval u vd] w fun e w' => Rep G w w' b m mb e (x.begin (sigB x.p)) := by
  obtain ⟨dp, dc, rfl, hdc⟩ := sl_shape hd
  have HH := hid h
  have HX := hid hx
  have HG := hid hG
  have HD := hid hd
  have HB := hid hb
  have hlt := h.top.lt
  have KA := hid ((Kept.refl [] w).alloc (.cells #[.int .i64 u.kind, .int .u32 u.code, .int .u32 u.ses, .int .u32 u.num, .int .i64 u.flags, .slice dp u.data.length dc] 63))
  have UA := hid (Has.new w 63 [.int .i64 u.kind, .int .u32 u.code, .int .u32 u.ses, .int .u32 u.num, .int .i64 u.flags, .slice dp u.data.length dc])
  have Xh1 := hid h1
  have Xh2 := hid h2
  clear h hx hG hd hb h1 h2
  unfold uval
  go_enter Tryz.func162, Tryz.ntmps162
  go_wp2_with fail
  have HA := hid (HH.out.nil KA.out)
  have DA := hid (HD.out.kept KA.out (by simp))
  generalize w.alloc (.cells #[.int .i64 u.kind, .int .u32 u.code, .int .u32 u.ses, .int .u32 u.num, .int .i64 u.flags, .slice dp u.data.length dc] 63) = wa at KA UA HA DA ⊢
  obtain ⟨R, hR⟩ : ∃ R, R = w.heap.size := ⟨_, rfl⟩
  rw [← hR] at UA ⊢
  have RR := hid (Nat.le_of_eq hR.symm)
  clear hR hlt
  have SK := hid (skI HA UA)
  have MC := hid (match_call x.p HX.out.p _ u.data _ (DA.out.kept ((Kept.refl [] wa).drew) (by simp)) HB.out)
  rw [show decide (u.data = sigB x.p) = true by have := Xh1.out; simp [this]] at MC
  unfold pval at MC
  have dd := SK.out _ ((Kept.refl [] wa).drew)
  go_region_held3 (fun w' => w'.cell? ⟨b, 0, none⟩ = some (.int .u32 x.p.code) ∧ w'.cell? ⟨b, 1, none⟩ = some (.int .i64 x.p.out) ∧ w'.cell? ⟨b, 2, none⟩ = some (.int .i64 x.p.inn) ∧ w'.cell? ⟨b, 3, none⟩ = some (.int .i64 x.p.watch) ∧ w'.cell? ⟨b, 4, none⟩ = some (.int .u32 x.p.count) ∧ w'.cell? ⟨R, 5, none⟩ = some (.slice dp u.data.length dc)) (with_reducible assumption) ((go_at_call 157; with_reducible refine MC.out.mono ?_; rintro e wm ⟨rfl, km⟩; have KM := hid (((Kept.refl [] wa).drew).trans km); have dd2 := SK.out _ KM.out; clear km))
  clear dd dd2
  have HM := hid (HA.out.nil KM.out)
  have UM := hid (KM.out.has UA.out (by simp))
  have KQ := hid (KG.nil (G := G) (KA.out.trans KM.out))
  have HGM := hid (HG.out.kg KQ.out)
  have c11 := HM.out.top.cell 11 (v := .int .i64 x.state) rfl
  have hs : x.state = 1 ∨ x.state = 5 ∨ x.state = 6 := by have := HX.out.st; have := Xh2.out; unfold D.half at this; omega
  rcases hs with hs | hs | hs
  all_goals (
  rw [hs] at c11
  clear hs
  go_wp2_with fail
  refine (begin_call HX.out HGM.out HM.out).mono ?_
  rintro e w5 ⟨f, rfl, k5, h5, f5⟩
  have K5 := hid ((kgM (m := m) (mb := mb) KQ.out).trans k5)
  have H5 := hid h5
  have F5 := hid (FrameOf.after KQ.out.size f5)
  clear k5 h5 f5
  obtain ⟨p5, l5, n5, rfl⟩ := DevC.FrameOf.shape F5.out
  go_wp2_with fail
  go_ret2
  exact ⟨_, rfl, K5.out, H5.out, F5.out⟩
  )
set_option maxRecDepth 100000 in
theorem asked2 (hx : DOk x) (hG : Opn G w) (h : DAt G w b d v g o lg k c m mb s x) (u : U) (vd : Value) (hd : Bytes w vd u.data) (hb : By u.data) (h1 : u.data = sigB x.p) (h2 : x.half) (h3 : x.stuck.2 = true) :
    Calls Tryz.prog 162 #[.pointer (some ⟨b, 0, none⟩), uval u vd] w fun e w' => Rep G w w' b m mb e (x.stuck.1.begin (sigB x.p)) := by
  obtain ⟨dp, dc, rfl, hdc⟩ := sl_shape hd
  have HH := hid h
  have HX := hid hx
  have HG := hid hG
  have HD := hid hd
  have HB := hid hb
  have hlt := h.top.lt
  have KA := hid ((Kept.refl [] w).alloc (.cells #[.int .i64 u.kind, .int .u32 u.code, .int .u32 u.ses, .int .u32 u.num, .int .i64 u.flags, .slice dp u.data.length dc] 63))
  have UA := hid (Has.new w 63 [.int .i64 u.kind, .int .u32 u.code, .int .u32 u.ses, .int .u32 u.num, .int .i64 u.flags, .slice dp u.data.length dc])
  have Xh1 := hid h1
  have Xh2 := hid h2
  have Xh3 := hid h3
  clear h hx hG hd hb h1 h2 h3
  unfold uval
  go_enter Tryz.func162, Tryz.ntmps162
  go_wp2_with fail
  have HA := hid (HH.out.nil KA.out)
  have DA := hid (HD.out.kept KA.out (by simp))
  generalize w.alloc (.cells #[.int .i64 u.kind, .int .u32 u.code, .int .u32 u.ses, .int .u32 u.num, .int .i64 u.flags, .slice dp u.data.length dc] 63) = wa at KA UA HA DA ⊢
  obtain ⟨R, hR⟩ : ∃ R, R = w.heap.size := ⟨_, rfl⟩
  rw [← hR] at UA ⊢
  have RR := hid (Nat.le_of_eq hR.symm)
  clear hR hlt
  have SK := hid (skI HA UA)
  have MC := hid (match_call x.p HX.out.p _ u.data _ (DA.out.kept ((Kept.refl [] wa).drew) (by simp)) HB.out)
  rw [show decide (u.data = sigB x.p) = true by have := Xh1.out; simp [this]] at MC
  unfold pval at MC
  have dd := SK.out _ ((Kept.refl [] wa).drew)
  go_region_held3 (fun w' => w'.cell? ⟨b, 0, none⟩ = some (.int .u32 x.p.code) ∧ w'.cell? ⟨b, 1, none⟩ = some (.int .i64 x.p.out) ∧ w'.cell? ⟨b, 2, none⟩ = some (.int .i64 x.p.inn) ∧ w'.cell? ⟨b, 3, none⟩ = some (.int .i64 x.p.watch) ∧ w'.cell? ⟨b, 4, none⟩ = some (.int .u32 x.p.count) ∧ w'.cell? ⟨R, 5, none⟩ = some (.slice dp u.data.length dc)) (with_reducible assumption) ((go_at_call 157; with_reducible refine MC.out.mono ?_; rintro e wm ⟨rfl, km⟩; have KM := hid (((Kept.refl [] wa).drew).trans km); have dd2 := SK.out _ KM.out; clear km))
  clear dd dd2
  have HM := hid (HA.out.nil KM.out)
  have UM := hid (KM.out.has UA.out (by simp))
  have KQ := hid (KG.nil (G := G) (KA.out.trans KM.out))
  have HGM := hid (HG.out.kg KQ.out)
  have SC := hid (stuck_call HX.out.st HX.out.odd.1 HX.out.odd.2 HGM.out HM.out)
  rw [Xh3.out] at SC
  have SO := hid HX.out.stuck
  have EP := hid (stuck_p x)
  have hs : x.state = 2 ∨ x.state = 3 ∨ x.state = 4 := Xh2.out
  have c11 := HM.out.top.cell 11 (v := .int .i64 x.state) rfl
  rcases hs with hs | hs | hs
  all_goals (
  rw [hs] at c11
  clear hs
  go_wp2_with fail
  refine SC.out.mono ?_
  rintro e w3 ⟨rfl, k3, h3⟩
  have K3 := hid (KQ.out.trans k3)
  have H3 := hid h3
  clear k3 h3 c11
  go_wp2_with fail
  refine (begin_call SO.out (HG.out.kg K3.out) H3.out).mono ?_
  rw [EP.out]
  rintro e w5 ⟨f, rfl, k5, h5, f5⟩
  have K5 := hid ((kgM (m := m) (mb := mb) K3.out).trans k5)
  have H5 := hid h5
  have F5 := hid (FrameOf.after K3.out.size f5)
  clear k5 h5 f5
  obtain ⟨p5, l5, n5, rfl⟩ := DevC.FrameOf.shape F5.out
  go_wp2_with fail
  go_ret2
  exact ⟨_, rfl, K5.out, H5.out, F5.out⟩
  )
set_option maxRecDepth 100000 in
theorem asked3 (hx : DOk x) (hG : Opn G w) (h : DAt G w b d v g o lg k c m mb s x) (u : U) (vd : Value) (hd : Bytes w vd u.data) (hb : By u.data) (h1 : u.data = sigB x.p) (h2 : x.half) (h3 : x.stuck.2 = false) (h4 : x.stuck.1.state = 2) :
    Calls Tryz.prog 162 #[.pointer (some ⟨b, 0, none⟩), uval u vd] w fun e w' => Rep G w w' b m mb e (x.stuck.1, some (x.stuck.1.offer (sigB x.p)), 130) := by
  obtain ⟨dp, dc, rfl, hdc⟩ := sl_shape hd
  have HH := hid h
  have HX := hid hx
  have HG := hid hG
  have HD := hid hd
  have HB := hid hb
  have hlt := h.top.lt
  have KA := hid ((Kept.refl [] w).alloc (.cells #[.int .i64 u.kind, .int .u32 u.code, .int .u32 u.ses, .int .u32 u.num, .int .i64 u.flags, .slice dp u.data.length dc] 63))
  have UA := hid (Has.new w 63 [.int .i64 u.kind, .int .u32 u.code, .int .u32 u.ses, .int .u32 u.num, .int .i64 u.flags, .slice dp u.data.length dc])
  have Xh1 := hid h1
  have Xh2 := hid h2
  have Xh3 := hid h3
  have Xh4 := hid h4
  clear h hx hG hd hb h1 h2 h3 h4
  unfold uval
  go_enter Tryz.func162, Tryz.ntmps162
  go_wp2_with fail
  have HA := hid (HH.out.nil KA.out)
  have DA := hid (HD.out.kept KA.out (by simp))
  generalize w.alloc (.cells #[.int .i64 u.kind, .int .u32 u.code, .int .u32 u.ses, .int .u32 u.num, .int .i64 u.flags, .slice dp u.data.length dc] 63) = wa at KA UA HA DA ⊢
  obtain ⟨R, hR⟩ : ∃ R, R = w.heap.size := ⟨_, rfl⟩
  rw [← hR] at UA ⊢
  have RR := hid (Nat.le_of_eq hR.symm)
  clear hR hlt
  have SK := hid (skI HA UA)
  have MC := hid (match_call x.p HX.out.p _ u.data _ (DA.out.kept ((Kept.refl [] wa).drew) (by simp)) HB.out)
  rw [show decide (u.data = sigB x.p) = true by have := Xh1.out; simp [this]] at MC
  unfold pval at MC
  have dd := SK.out _ ((Kept.refl [] wa).drew)
  go_region_held3 (fun w' => w'.cell? ⟨b, 0, none⟩ = some (.int .u32 x.p.code) ∧ w'.cell? ⟨b, 1, none⟩ = some (.int .i64 x.p.out) ∧ w'.cell? ⟨b, 2, none⟩ = some (.int .i64 x.p.inn) ∧ w'.cell? ⟨b, 3, none⟩ = some (.int .i64 x.p.watch) ∧ w'.cell? ⟨b, 4, none⟩ = some (.int .u32 x.p.count) ∧ w'.cell? ⟨R, 5, none⟩ = some (.slice dp u.data.length dc)) (with_reducible assumption) ((go_at_call 157; with_reducible refine MC.out.mono ?_; rintro e wm ⟨rfl, km⟩; have KM := hid (((Kept.refl [] wa).drew).trans km); have dd2 := SK.out _ KM.out; clear km))
  clear dd dd2
  have HM := hid (HA.out.nil KM.out)
  have UM := hid (KM.out.has UA.out (by simp))
  have KQ := hid (KG.nil (G := G) (KA.out.trans KM.out))
  have HGM := hid (HG.out.kg KQ.out)
  have SC := hid (stuck_call HX.out.st HX.out.odd.1 HX.out.odd.2 HGM.out HM.out)
  rw [Xh3.out] at SC
  have SO := hid HX.out.stuck
  have EP := hid (stuck_p x)
  have hs : x.state = 2 ∨ x.state = 3 ∨ x.state = 4 := Xh2.out
  have c11 := HM.out.top.cell 11 (v := .int .i64 x.state) rfl
  rcases hs with hs | hs | hs
  all_goals (
  rw [hs] at c11
  clear hs
  go_wp2_with fail
  refine SC.out.mono ?_
  rintro e w3 ⟨rfl, k3, h3⟩
  have K3 := hid (KQ.out.trans k3)
  have H3 := hid h3
  clear k3 h3 c11
  have c11 := H3.out.top.cell 11 (v := .int .i64 x.stuck.1.state) rfl
  rw [Xh4.out] at c11
  go_wp2_with fail
  have OC := offer_call SO.out.p (SO.out.live (.inl Xh4.out)) H3.out
  rw [EP.out] at OC
  refine OC.mono ?_
  clear OC
  rintro e w5 ⟨f, rfl, k5, m5⟩
  have K5 := hid (KG.trans (kgM (m := m) (mb := mb) K3.out) (.nil k5))
  have H5 := hid (H3.out.nil k5)
  have F5 := hid (Made.after K3.out.size m5)
  clear k5 m5
  obtain ⟨p5, n5, rfl⟩ := F5.out.shape
  go_wp2_with fail
  go_ret2
  exact ⟨_, rfl, K5.out, H5.out.dev, F5.out⟩
  )
set_option maxRecDepth 100000 in
theorem asked4 (hx : DOk x) (hG : Opn G w) (h : DAt G w b d v g o lg k c m mb s x) (u : U) (vd : Value) (hd : Bytes w vd u.data) (hb : By u.data) (h1 : u.data = sigB x.p) (h2 : x.half) (h3 : x.stuck.2 = false) (h4 : x.stuck.1.state ≠ 2) :
    Calls Tryz.prog 162 #[.pointer (some ⟨b, 0, none⟩), uval u vd] w fun e w' => Rep G w w' b m mb e (x.stuck.1, some (x.stuck.1.reply 22 0 []), 130) := by
  obtain ⟨dp, dc, rfl, hdc⟩ := sl_shape hd
  have HH := hid h
  have HX := hid hx
  have HG := hid hG
  have HD := hid hd
  have HB := hid hb
  have hlt := h.top.lt
  have KA := hid ((Kept.refl [] w).alloc (.cells #[.int .i64 u.kind, .int .u32 u.code, .int .u32 u.ses, .int .u32 u.num, .int .i64 u.flags, .slice dp u.data.length dc] 63))
  have UA := hid (Has.new w 63 [.int .i64 u.kind, .int .u32 u.code, .int .u32 u.ses, .int .u32 u.num, .int .i64 u.flags, .slice dp u.data.length dc])
  have Xh1 := hid h1
  have Xh2 := hid h2
  have Xh3 := hid h3
  have Xh4 := hid h4
  clear h hx hG hd hb h1 h2 h3 h4
  unfold uval
  go_enter Tryz.func162, Tryz.ntmps162
  go_wp2_with fail
  have HA := hid (HH.out.nil KA.out)
  have DA := hid (HD.out.kept KA.out (by simp))
  generalize w.alloc (.cells #[.int .i64 u.kind, .int .u32 u.code, .int .u32 u.ses, .int .u32 u.num, .int .i64 u.flags, .slice dp u.data.length dc] 63) = wa at KA UA HA DA ⊢
  obtain ⟨R, hR⟩ : ∃ R, R = w.heap.size := ⟨_, rfl⟩
  rw [← hR] at UA ⊢
  have RR := hid (Nat.le_of_eq hR.symm)
  clear hR hlt
  have SK := hid (skI HA UA)
  have MC := hid (match_call x.p HX.out.p _ u.data _ (DA.out.kept ((Kept.refl [] wa).drew) (by simp)) HB.out)
  rw [show decide (u.data = sigB x.p) = true by have := Xh1.out; simp [this]] at MC
  unfold pval at MC
  have dd := SK.out _ ((Kept.refl [] wa).drew)
  go_region_held3 (fun w' => w'.cell? ⟨b, 0, none⟩ = some (.int .u32 x.p.code) ∧ w'.cell? ⟨b, 1, none⟩ = some (.int .i64 x.p.out) ∧ w'.cell? ⟨b, 2, none⟩ = some (.int .i64 x.p.inn) ∧ w'.cell? ⟨b, 3, none⟩ = some (.int .i64 x.p.watch) ∧ w'.cell? ⟨b, 4, none⟩ = some (.int .u32 x.p.count) ∧ w'.cell? ⟨R, 5, none⟩ = some (.slice dp u.data.length dc)) (with_reducible assumption) ((go_at_call 157; with_reducible refine MC.out.mono ?_; rintro e wm ⟨rfl, km⟩; have KM := hid (((Kept.refl [] wa).drew).trans km); have dd2 := SK.out _ KM.out; clear km))
  clear dd dd2
  have HM := hid (HA.out.nil KM.out)
  have UM := hid (KM.out.has UA.out (by simp))
  have KQ := hid (KG.nil (G := G) (KA.out.trans KM.out))
  have HGM := hid (HG.out.kg KQ.out)
  have SC := hid (stuck_call HX.out.st HX.out.odd.1 HX.out.odd.2 HGM.out HM.out)
  rw [Xh3.out] at SC
  have SO := hid HX.out.stuck
  have EP := hid (stuck_p x)
  have hs : x.state = 2 ∨ x.state = 3 ∨ x.state = 4 := Xh2.out
  have c11 := HM.out.top.cell 11 (v := .int .i64 x.state) rfl
  rcases hs with hs | hs | hs
  all_goals (
  rw [hs] at c11
  clear hs
  go_wp2_with fail
  refine SC.out.mono ?_
  rintro e w3 ⟨rfl, k3, h3⟩
  have K3 := hid (KQ.out.trans k3)
  have H3 := hid h3
  clear k3 h3 c11
  have c11 := H3.out.top.cell 11 (v := .int .i64 x.stuck.1.state) rfl
  have e11 : (x.stuck.1.state == 2) = false := by have := Xh4.out; simp [this]
  go_wp2_with fail
  refine (reply_call 22 0 [] (.slice none 0 0) (by decide) (law22 SO.out.p) H3.out (bytes_none _) (by intro z hz; cases hz)).mono ?_
  rintro e w5 ⟨f, rfl, k5, m5⟩
  have K5 := hid (KG.trans (kgM (m := m) (mb := mb) K3.out) (.nil k5))
  have H5 := hid (H3.out.nil k5)
  have F5 := hid (Made.after K3.out.size m5)
  clear k5 m5
  obtain ⟨p5, n5, rfl⟩ := F5.out.shape
  go_wp2_with fail
  go_ret2
  exact ⟨_, rfl, K5.out, H5.out.dev, F5.out⟩
  )
theorem asked_call (hx : DOk x) (hG : Opn G w) (h : DAt G w b d v g o lg k c m mb s x) (u : U) (vd : Value) (hd : Bytes w vd u.data) (hb : By u.data) :
    Calls Tryz.prog 162 #[.pointer (some ⟨b, 0, none⟩), uval u vd] w fun e w' => Rep G w w' b m mb e (x.asked (sigB x.p) u) := by
  by_cases h1 : u.data = sigB x.p
  · by_cases h2 : x.half
    · by_cases h3 : x.stuck.2 = true
      · have e : x.asked (sigB x.p) u = x.stuck.1.begin (sigB x.p) := by unfold D.asked; rw [if_pos h1, if_pos h2, if_pos h3]
        rw [e]; exact asked2 hx hG h u vd hd hb h1 h2 h3
      · by_cases h4 : x.stuck.1.state = 2
        · have e : x.asked (sigB x.p) u = (x.stuck.1, some (x.stuck.1.offer (sigB x.p)), 130) := by unfold D.asked; rw [if_pos h1, if_pos h2, if_neg h3, if_pos h4]
          rw [e]; exact asked3 hx hG h u vd hd hb h1 h2 (by simpa using h3) h4
        · have e : x.asked (sigB x.p) u = (x.stuck.1, some (x.stuck.1.reply 22 0 []), 130) := by unfold D.asked; rw [if_pos h1, if_pos h2, if_neg h3, if_neg h4]
          rw [e]; exact asked4 hx hG h u vd hd hb h1 h2 (by simpa using h3) h4
    · have e : x.asked (sigB x.p) u = x.begin (sigB x.p) := by unfold D.asked; rw [if_pos h1, if_neg h2]
      rw [e]; exact asked1 hx hG h u vd hd hb h1 h2
  · have e : x.asked (sigB x.p) u = x.odds 91 := by unfold D.asked; rw [if_neg h1]
    rw [e]; exact asked0 hx hG h u vd hd hb h1
end DevC
end Go.Proofs.YtinaliblnihpbaaGreat

/- The scanner's token: the way of a number. -/
import Derived.Test.YtmapaagdaojpaaaGreatDoorTok
namespace Go.Proofs.YtmapaagdaojpaaaGreatDoor
open Go.RowKit

set_option maxHeartbeats 1000000 in
set_option maxRecDepth 100000 in
theorem way_numa (B b : Nat) (s : ByteArray) (at_ : Nat) (sp : List (Nat × Nat)) (v : Value) (w X : World) (R : TokR) (x : Nat) (cv ix : Int) (C : Code) (hC : TailOk B b s at_ sp v w R C) (hs : s.size ≤ 40000) (hlt : at_ < s.size) (_hB : B ≤ w.heap.size) (_hbB : B ≤ b)
    (hx1 : x < 256) (HB : Hid ((x : Int) = bt s at_)) (HV : Hid (cls x = cv)) (hbs : b < w.heap.size) (hvl : ∀ k, v.ownBlock = some k → k < w.heap.size)
    (hT : TokW B b s at_ at_ sp v w (X.alloc (.cells #[.int .i64 0, .string ⟨#[]⟩, .int .i64 0] 27)) zTok ∧ (X.alloc (.cells #[.int .i64 0, .string ⟨#[]⟩, .int .i64 0] 27)).heap.size = w.heap.size + 4)
    (hR : Hid (tokN s at_ = R)) (hI : ∀ w, Calls Tryz.prog 68 #[.string ⟨#[115, 116, 101]⟩, .int .u8 x] w fun e w' => e = .returned (.int .i64 ix) ∧ w' = w)
    (hnq : ¬ ((x : Int) = 39 ∨ (x : Int) = 34)) (HST : Hid (¬ (steB (bt s at_) = true ∧ bt s (at_ + 1) = 46))) (hix : ix < 0) (hcv : cv = 3) (u13 u14 u15 u16 u17 u18 u19 u20 u21 u22 u23 u24 u25 : Value) :
    Code.wp Tryz.prog (.seq (cHd tokRest) (.seq (cHd (cTl tokRest)) (.seq (cHd (cTl (cTl tokRest))) C))) (bodyPost Tryz.prog Tryz.f96 (TokenPost B b s at_ sp v w R)) ⟨#[.pointer (some ⟨b, 0, none⟩), .pointer (some ⟨w.heap.size, 0, none⟩), .pointer (some ⟨w.heap.size + 1, 0, none⟩), .nilIface, .pointer (some ⟨w.heap.size + 2, 0, none⟩), .int .u8 x, undef, undef, undef, undef, undef, undef, undef, u13, u14, u15, u16, u17, u18, u19, u20, u21, u22, u23, u24, u25, undef, undef, undef, undef, undef, undef, undef, undef, undef, undef, undef, undef, undef, undef, undef, undef, undef, undef, undef, undef, undef, undef, undef, undef, undef, undef, undef, undef, undef, undef, undef, undef, undef, undef, undef, undef, undef, undef, undef, undef, undef, undef, undef, undef, undef, undef, undef, undef, undef, undef, undef, undef, undef, undef, undef, undef, undef, undef, undef, undef, undef, undef, undef, undef, undef, undef, undef, undef, undef, undef, undef, undef, undef, undef, undef, undef, undef, undef, undef, undef, undef, undef, undef, undef, undef, undef, undef, undef, undef, undef, undef, undef, undef, undef, undef, undef, undef, undef, undef, undef, undef, undef, undef, undef, undef, undef, undef, undef, undef, undef, undef, undef, undef, undef, undef, undef, undef, undef, undef, undef, undef, undef, undef, undef, undef, undef, undef, undef, undef, undef, undef, undef, undef, undef, undef, undef, undef, undef, undef, undef, undef, undef, undef, undef, undef, undef, undef, undef, undef, undef, undef, undef, undef, undef, undef, undef, undef, undef, undef, undef, undef, undef, undef, undef, undef, undef, undef, undef, undef, undef, undef, undef, undef, undef, undef, undef, undef, undef, undef, undef, undef, undef, undef, undef, undef, undef, undef, undef, undef, undef, undef, undef, undef, undef, undef, undef, undef, undef, undef, undef, undef, undef, undef, undef, undef, undef, undef, undef, undef, undef], []⟩ X.drew := by
  clear _hB _hbB
  have hcl3 := hT.1.scan.row.c2 x hx1
  rw [HV.out] at hcl3
  have hsp3 := hT.1.nm_cell
  have hpl3 := hT.1.pl_cell
  have hc03 := hT.1.scan.row.c0
  have hx2 : (x : Int) < 256 := by omega
  have hX : X.heap.size = w.heap.size + 3 := by have := hT.2; simp at this; omega
  have n39 : ((x : Int) == 39) = false := by simp; omega
  have n34 : ((x : Int) == 34) = false := by simp; omega
  have HQ : Hid (¬ (bt s at_ = 39 ∨ bt s at_ = 34)) := by rw [← HB.out]; exact hnq
  clear hnq
  obtain rfl : cv = 3 := hcv
  have HC : Hid (cls (bt s at_).toNat = 3) := by rw [← HB.out]; exact HV.out
  have i0 : decide (0 ≤ ix) = false := decide_eq_false (by omega)
  have H3 : Hid (cls (bt s at_).toNat = 3 ∨ (bt s at_ = 45 ∧ cls (bt s (at_ + 1)).toNat = 3)) := .inl HC.out
  have HQV := Lib.hid (tok_num hR.out HQ.out (by rw [HC.out]; decide) HST.out (by rw [HC.out]; decide) H3.out)
  have hfin := runTo_le s (fun c => cls c.toNat == 3) (at_ + 1) (by omega)
  have hfd : runTo s (fun c => cls c.toNat == 3) (at_ + 1) = digE s (at_ + 1) := rfl
  rw [hfd] at hfin
  have e1 : IntKind.i64.wrap ((at_ : Int) + 1) = (at_ : Int) + 1 := IntWalk.i64_in _ (by omega)
  conv => arg 2; arg 1; whnf
  conv => arg 2; arg 2; arg 1; whnf
  conv => arg 2; arg 2; arg 2; arg 1; whnf
  go_wp2_with fail
  generalize World.alloc X _ = W4 at hT hcl3 hsp3 hpl3 hc03 ⊢
  refine (hI _).mono ?_
  rintro e w1 ⟨rfl, rfl⟩
  clear hI
  go_wp2_with fail
  go_quiet (fail)
  go_wp2_with fail
  go_loopw [10] (fun i wr => ∃ k : Nat, at_ + 1 ≤ k ∧ k ≤ s.size ∧ i = .int .i64 k ∧ Hid (digE s k = digE s (at_ + 1)) ∧ Hid (∃ d, wr = W4.drewN d)) (fun i _ => s.size - (intOf i).toNat)
  case atStart => exact ⟨at_ + 1, by omega, by omega, by first | rfl | simp, rfl, ⟨_, rfl⟩⟩
  case round =>
    obtain ⟨k, hk1, hk2, rfl, hD, hQd⟩ := hrel
    have hTr : TokW B b s at_ at_ sp v w wr zTok := by obtain ⟨d, rfl⟩ := hQd.out; exact hT.1.drewN d
    have q0 := hTr.scan.row.c0
    have q3 := hTr.nm_cell
    have q4 := hTr.pl_cell
    by_cases hltk : k < s.size
    · have hl : decide (k < s.size) = true := by simpa using hltk
      have hx3 : (s[k]'hltk).toNat < 256 := (s[k]).toNat_lt
      have HBk : Hid (((s[k]'hltk).toNat : Int) = bt s k) := bt_in hltk
      have q2 := hTr.scan.row.c2 (s[k]'hltk).toNat hx3
      generalize hvk : cls (s[k]'hltk).toNat = vk at q2
      have HVk := Lib.hid hvk
      clear hvk
      have HCk : Hid (cls (bt s k).toNat = vk) := by rw [← HBk.out]; exact HVk.out
      by_cases e3 : vk = 3
      · subst e3
        go_wp2
        go_quiet (fail)
        go_wp2
        go_roundw
        case rel => exact ⟨k + 1, by omega, by omega, by go_num, (runTo_step hltk (by simpa using HCk.out)).symm.trans hD.out, hq_step hQd⟩
        case measure => simp [intOf]; omega
      · have n3 : (vk == 3) = false := by simpa using e3
        have hfk : Hid (k = digE s (at_ + 1)) := by rw [← hD.out]; exact Lib.hid (runTo_stop (by rintro ⟨_, q⟩; rw [show (cls (bt s k).toNat == 3) = true ↔ vk = 3 by rw [HCk.out]; simp] at q; exact e3 q)).symm
        go_wp2
        go_quiet (fail)
        go_wp2_with fail
        refine (take_any B b w.heap.size (w.heap.size + 2) s at_ at_ k 4 sp v _ hs (hTr.scan.drewN _) hTr.nm hTr.pl (by omega) (by omega) (by omega)).mono ?_
        rintro e w5 ⟨rfl, hsc5, hkp5⟩
        have hT5 := (hTr.drewN _).step hkp5 hsc5 hbs
        rw [← hfk.out] at HQV
        generalize hTX : s.extract at_ k = tx at HQV ⊢
        have HTX := Lib.hid hTX.symm
        clear hTX hkp5 hsc5
        generalize hNB : isNumB tx = nb at HQV
        go_wp2_with (refine wpList_store_row rfl 27 (.tmp 7) (.tmp 147) rfl (w.heap.size + 3) (tokCells 4 tx at_) rfl rfl 27 zTok hT5.tok (info_tok _ rfl) rfl (tok_cells _ _ _) ?_; have hT6 := hT5.setTok hbs hvl (tokCells 4 tx at_); have hc6 := hT6.tok_text; generalize w5.setRow (w.heap.size + 3) (tokCells 4 tx at_) = W6 at hT6 hc6 ⊢)
        refine (IsNumber_any tx W6).mono ?_
        rintro e w7 ⟨rfl, hb7⟩
        have hT7 := hT6.below hb7
        clear hT6 hc6 hb7
        rw [hNB]
        cases nb
        · go_wp2_with fail
          have tE := tokw_err (hT7)
          obtain ⟨t0, t1, t2, f0, f1, f2⟩ := tE
          have hple := (hT7).pl_cell
          have HTK := Lib.hid (hT7)
          have hlt6 : w.heap.size + 1 < w7.heap.size := by have := hT7.lt; omega
          go_region
          all_goals go_wp2
          all_goals
            refine bodyPost_ret (v := .tuple #[.agg zTok, .iface 110 (.pointer (some ⟨w7.heap.size, 0, none⟩))]) ?_ rfl ?_
            · exact results_row_tmp rfl _ _ (w.heap.size + 1) 27 zTok (0, 0) _ _ rfl rfl (tokw_err_heap HTK.out _ ⟨rfl, rfl, rfl, rfl⟩) Tryz.underlying27 rfl (info_tok _ rfl)
            · rw [(by have h := HQV.out; rw [if_neg (by decide)] at h; exact h.symm : R = .bad 43 at_)]
              exact tokw_err_post HTK.out _ _ _ (rfl) ⟨rfl, rfl, rfl, rfl⟩
        · go_wp2_with fail
          exact hC _ k _ tx _ _ _ _ _ _ _ _ _ _ _ _ _ _ _ _ _ _ _ _ _ _ _ _ _ _ _ _ _ _ _ _ _ _ _ _ _ _ _ _ _ _ _ _ _ _ _ _ _ _ _ _ _ _ _ _ _ _ _ _ _ _ _ _ _ _ _ _ _ _ _ _ _ _ _ _ _ _ _ _ _ _ _ _ _ _ _ _ _ _ _ _ _ _ _ _ _ _ _ _ _ _ _ _ _ _ _ _ _ _ _ _ _ _ _ _ _ _ _ _ _ _ _ _ _ _ _ _ _ _ _ _ _ _ _ _ _ _ _ _ _ _ _ _ _ _ _ _ _ _ _ _ _ _ _ _ _ _ _ _ _ _ _ _ _ _ _ _ _ _ _ _ _ _ _ _ _ _ _ _ _ _ _ _ _ _ _ _ _ _ _ _ _ _ _ _ _ _ _ _ _ _ _ _ _ _ _ _ _ _ _ _ _ _ _ _ _ _ _ _ _ _ _ _ _ _ _ _ _ _ _ _ _ (Lib.hid (by have h := HQV.out; simpa using h)) HTX hT7 hT7.lt
    · have hl : decide (k < s.size) = false := by simpa using hltk
      have hfk : Hid (k = digE s (at_ + 1)) := by rw [← hD.out]; exact Lib.hid (runTo_stop (fun q => hltk q.1)).symm
      go_wp2
      go_quiet (fail)
      go_wp2_with fail
      refine (take_any B b w.heap.size (w.heap.size + 2) s at_ at_ k 4 sp v _ hs (hTr.scan.drewN _) hTr.nm hTr.pl (by omega) (by omega) (by omega)).mono ?_
      rintro e w5 ⟨rfl, hsc5, hkp5⟩
      have hT5 := (hTr.drewN _).step hkp5 hsc5 hbs
      rw [← hfk.out] at HQV
      generalize hTX : s.extract at_ k = tx at HQV ⊢
      have HTX := Lib.hid hTX.symm
      clear hTX hkp5 hsc5
      generalize hNB : isNumB tx = nb at HQV
      go_wp2_with (refine wpList_store_row rfl 27 (.tmp 7) (.tmp 147) rfl (w.heap.size + 3) (tokCells 4 tx at_) rfl rfl 27 zTok hT5.tok (info_tok _ rfl) rfl (tok_cells _ _ _) ?_; have hT6 := hT5.setTok hbs hvl (tokCells 4 tx at_); have hc6 := hT6.tok_text; generalize w5.setRow (w.heap.size + 3) (tokCells 4 tx at_) = W6 at hT6 hc6 ⊢)
      refine (IsNumber_any tx W6).mono ?_
      rintro e w7 ⟨rfl, hb7⟩
      have hT7 := hT6.below hb7
      clear hT6 hc6 hb7
      rw [hNB]
      cases nb
      · go_wp2_with fail
        have tE := tokw_err (hT7)
        obtain ⟨t0, t1, t2, f0, f1, f2⟩ := tE
        have hple := (hT7).pl_cell
        have HTK := Lib.hid (hT7)
        have hlt6 : w.heap.size + 1 < w7.heap.size := by have := hT7.lt; omega
        go_region
        all_goals go_wp2
        all_goals
          refine bodyPost_ret (v := .tuple #[.agg zTok, .iface 110 (.pointer (some ⟨w7.heap.size, 0, none⟩))]) ?_ rfl ?_
          · exact results_row_tmp rfl _ _ (w.heap.size + 1) 27 zTok (0, 0) _ _ rfl rfl (tokw_err_heap HTK.out _ ⟨rfl, rfl, rfl, rfl⟩) Tryz.underlying27 rfl (info_tok _ rfl)
          · rw [(by have h := HQV.out; rw [if_neg (by decide)] at h; exact h.symm : R = .bad 43 at_)]
            exact tokw_err_post HTK.out _ _ _ (rfl) ⟨rfl, rfl, rfl, rfl⟩
      · go_wp2_with fail
        exact hC _ k _ tx _ _ _ _ _ _ _ _ _ _ _ _ _ _ _ _ _ _ _ _ _ _ _ _ _ _ _ _ _ _ _ _ _ _ _ _ _ _ _ _ _ _ _ _ _ _ _ _ _ _ _ _ _ _ _ _ _ _ _ _ _ _ _ _ _ _ _ _ _ _ _ _ _ _ _ _ _ _ _ _ _ _ _ _ _ _ _ _ _ _ _ _ _ _ _ _ _ _ _ _ _ _ _ _ _ _ _ _ _ _ _ _ _ _ _ _ _ _ _ _ _ _ _ _ _ _ _ _ _ _ _ _ _ _ _ _ _ _ _ _ _ _ _ _ _ _ _ _ _ _ _ _ _ _ _ _ _ _ _ _ _ _ _ _ _ _ _ _ _ _ _ _ _ _ _ _ _ _ _ _ _ _ _ _ _ _ _ _ _ _ _ _ _ _ _ _ _ _ _ _ _ _ _ _ _ _ _ _ _ _ _ _ _ _ _ _ _ _ _ _ _ _ _ _ _ _ _ _ _ _ _ _ _ (Lib.hid (by have h := HQV.out; simpa using h)) HTX hT7 hT7.lt
set_option maxHeartbeats 1000000 in
set_option maxRecDepth 100000 in
theorem way_numb (B b : Nat) (s : ByteArray) (at_ : Nat) (sp : List (Nat × Nat)) (v : Value) (w X : World) (R : TokR) (x : Nat) (cv ix : Int) (C : Code) (hC : TailOk B b s at_ sp v w R C) (hs : s.size ≤ 40000) (hlt : at_ < s.size) (_hB : B ≤ w.heap.size) (_hbB : B ≤ b)
    (hx1 : x < 256) (HB : Hid ((x : Int) = bt s at_)) (HV : Hid (cls x = cv)) (hbs : b < w.heap.size) (hvl : ∀ k, v.ownBlock = some k → k < w.heap.size)
    (hT : TokW B b s at_ at_ sp v w (X.alloc (.cells #[.int .i64 0, .string ⟨#[]⟩, .int .i64 0] 27)) zTok ∧ (X.alloc (.cells #[.int .i64 0, .string ⟨#[]⟩, .int .i64 0] 27)).heap.size = w.heap.size + 4)
    (hR : Hid (tokN s at_ = R)) (hI : ∀ w, Calls Tryz.prog 68 #[.string ⟨#[115, 116, 101]⟩, .int .u8 x] w fun e w' => e = .returned (.int .i64 ix) ∧ w' = w)
    (hnq : ¬ ((x : Int) = 39 ∨ (x : Int) = 34)) (HST : Hid (¬ (steB (bt s at_) = true ∧ bt s (at_ + 1) = 46))) (hix : ix < 0) (hcv : cv = 0) (h45 : ((x : Int) == 45) = true) (hny : cls (bt s (at_ + 1)).toNat = 3) (u13 u14 u15 u16 u17 u18 u19 u20 u21 u22 u23 u24 u25 : Value) :
    Code.wp Tryz.prog (.seq (cHd tokRest) (.seq (cHd (cTl tokRest)) (.seq (cHd (cTl (cTl tokRest))) C))) (bodyPost Tryz.prog Tryz.f96 (TokenPost B b s at_ sp v w R)) ⟨#[.pointer (some ⟨b, 0, none⟩), .pointer (some ⟨w.heap.size, 0, none⟩), .pointer (some ⟨w.heap.size + 1, 0, none⟩), .nilIface, .pointer (some ⟨w.heap.size + 2, 0, none⟩), .int .u8 x, undef, undef, undef, undef, undef, undef, undef, u13, u14, u15, u16, u17, u18, u19, u20, u21, u22, u23, u24, u25, undef, undef, undef, undef, undef, undef, undef, undef, undef, undef, undef, undef, undef, undef, undef, undef, undef, undef, undef, undef, undef, undef, undef, undef, undef, undef, undef, undef, undef, undef, undef, undef, undef, undef, undef, undef, undef, undef, undef, undef, undef, undef, undef, undef, undef, undef, undef, undef, undef, undef, undef, undef, undef, undef, undef, undef, undef, undef, undef, undef, undef, undef, undef, undef, undef, undef, undef, undef, undef, undef, undef, undef, undef, undef, undef, undef, undef, undef, undef, undef, undef, undef, undef, undef, undef, undef, undef, undef, undef, undef, undef, undef, undef, undef, undef, undef, undef, undef, undef, undef, undef, undef, undef, undef, undef, undef, undef, undef, undef, undef, undef, undef, undef, undef, undef, undef, undef, undef, undef, undef, undef, undef, undef, undef, undef, undef, undef, undef, undef, undef, undef, undef, undef, undef, undef, undef, undef, undef, undef, undef, undef, undef, undef, undef, undef, undef, undef, undef, undef, undef, undef, undef, undef, undef, undef, undef, undef, undef, undef, undef, undef, undef, undef, undef, undef, undef, undef, undef, undef, undef, undef, undef, undef, undef, undef, undef, undef, undef, undef, undef, undef, undef, undef, undef, undef, undef, undef, undef, undef, undef, undef, undef, undef, undef, undef, undef, undef, undef, undef, undef, undef, undef, undef, undef, undef, undef, undef, undef, undef, undef], []⟩ X.drew := by
  clear _hB _hbB
  have hcl3 := hT.1.scan.row.c2 x hx1
  rw [HV.out] at hcl3
  have hsp3 := hT.1.nm_cell
  have hpl3 := hT.1.pl_cell
  have hc03 := hT.1.scan.row.c0
  have hx2 : (x : Int) < 256 := by omega
  have hX : X.heap.size = w.heap.size + 3 := by have := hT.2; simp at this; omega
  have n39 : ((x : Int) == 39) = false := by simp; omega
  have n34 : ((x : Int) == 34) = false := by simp; omega
  have HQ : Hid (¬ (bt s at_ = 39 ∨ bt s at_ = 34)) := by rw [← HB.out]; exact hnq
  clear hnq
  obtain rfl : cv = 0 := hcv
  have HC : Hid (cls (bt s at_).toNat = 0) := by rw [← HB.out]; exact HV.out
  have i0 : decide (0 ≤ ix) = false := decide_eq_false (by omega)
  have H3 : Hid (cls (bt s at_).toNat = 3 ∨ (bt s at_ = 45 ∧ cls (bt s (at_ + 1)).toNat = 3)) := .inr ⟨by rw [← HB.out]; simpa using h45, hny⟩
  have HQV := Lib.hid (tok_num hR.out HQ.out (by rw [HC.out]; decide) HST.out (by rw [HC.out]; decide) H3.out)
  have hfin := runTo_le s (fun c => cls c.toNat == 3) (at_ + 1) (by omega)
  have hfd : runTo s (fun c => cls c.toNat == 3) (at_ + 1) = digE s (at_ + 1) := rfl
  rw [hfd] at hfin
  have e1 : IntKind.i64.wrap ((at_ : Int) + 1) = (at_ : Int) + 1 := IntWalk.i64_in _ (by omega)
  obtain ⟨y, hy⟩ : ∃ y : Nat, bt s (at_ + 1) = y := ⟨(bt s (at_ + 1)).toNat, by have := bt_lo s (at_ + 1); omega⟩
  have hy1 : y < 256 := by have := bt_hi s (at_ + 1); omega
  have hy2 : (y : Int) < 256 := by omega
  have hcy := hT.1.scan.row.c2 y hy1
  generalize hcz : cls y = cz at hcy
  have hcz3 : cz = 3 := by rw [← hcz, ← hny, hy]; rfl
  subst hcz3
  conv => arg 2; arg 1; whnf
  conv => arg 2; arg 2; arg 1; whnf
  conv => arg 2; arg 2; arg 2; arg 1; whnf
  go_wp2_with fail
  generalize World.alloc X _ = W4 at hT hcl3 hsp3 hpl3 hc03 hcy ⊢
  refine (hI _).mono ?_
  rintro e w1 ⟨rfl, rfl⟩
  clear hI
  go_wp2_with fail
  have hnx := fun k => next1 b s at_ v (W4.drewN k) (by omega) (hT.1.scan.drewN k).row
  rw [hy] at hnx
  go_quiet ((go_at_call 112; first | exact quiet_drew hnx | exact quiet_drew1 hnx))
  go_wp2_with fail
  go_loopw [10] (fun i wr => ∃ k : Nat, at_ + 1 ≤ k ∧ k ≤ s.size ∧ i = .int .i64 k ∧ Hid (digE s k = digE s (at_ + 1)) ∧ Hid (∃ d, wr = W4.drewN d)) (fun i _ => s.size - (intOf i).toNat)
  case atStart => exact ⟨at_ + 1, by omega, by omega, by first | rfl | simp, rfl, ⟨_, rfl⟩⟩
  case round =>
    obtain ⟨k, hk1, hk2, rfl, hD, hQd⟩ := hrel
    have hTr : TokW B b s at_ at_ sp v w wr zTok := by obtain ⟨d, rfl⟩ := hQd.out; exact hT.1.drewN d
    have q0 := hTr.scan.row.c0
    have q3 := hTr.nm_cell
    have q4 := hTr.pl_cell
    by_cases hltk : k < s.size
    · have hl : decide (k < s.size) = true := by simpa using hltk
      have hx3 : (s[k]'hltk).toNat < 256 := (s[k]).toNat_lt
      have HBk : Hid (((s[k]'hltk).toNat : Int) = bt s k) := bt_in hltk
      have q2 := hTr.scan.row.c2 (s[k]'hltk).toNat hx3
      generalize hvk : cls (s[k]'hltk).toNat = vk at q2
      have HVk := Lib.hid hvk
      clear hvk
      have HCk : Hid (cls (bt s k).toNat = vk) := by rw [← HBk.out]; exact HVk.out
      by_cases e3 : vk = 3
      · subst e3
        go_wp2
        go_quiet (fail)
        go_wp2
        go_roundw
        case rel => exact ⟨k + 1, by omega, by omega, by go_num, (runTo_step hltk (by simpa using HCk.out)).symm.trans hD.out, hq_step hQd⟩
        case measure => simp [intOf]; omega
      · have n3 : (vk == 3) = false := by simpa using e3
        have hfk : Hid (k = digE s (at_ + 1)) := by rw [← hD.out]; exact Lib.hid (runTo_stop (by rintro ⟨_, q⟩; rw [show (cls (bt s k).toNat == 3) = true ↔ vk = 3 by rw [HCk.out]; simp] at q; exact e3 q)).symm
        go_wp2
        go_quiet (fail)
        go_wp2_with fail
        refine (take_any B b w.heap.size (w.heap.size + 2) s at_ at_ k 4 sp v _ hs (hTr.scan.drewN _) hTr.nm hTr.pl (by omega) (by omega) (by omega)).mono ?_
        rintro e w5 ⟨rfl, hsc5, hkp5⟩
        have hT5 := (hTr.drewN _).step hkp5 hsc5 hbs
        rw [← hfk.out] at HQV
        generalize hTX : s.extract at_ k = tx at HQV ⊢
        have HTX := Lib.hid hTX.symm
        clear hTX hkp5 hsc5
        generalize hNB : isNumB tx = nb at HQV
        go_wp2_with (refine wpList_store_row rfl 27 (.tmp 7) (.tmp 147) rfl (w.heap.size + 3) (tokCells 4 tx at_) rfl rfl 27 zTok hT5.tok (info_tok _ rfl) rfl (tok_cells _ _ _) ?_; have hT6 := hT5.setTok hbs hvl (tokCells 4 tx at_); have hc6 := hT6.tok_text; generalize w5.setRow (w.heap.size + 3) (tokCells 4 tx at_) = W6 at hT6 hc6 ⊢)
        refine (IsNumber_any tx W6).mono ?_
        rintro e w7 ⟨rfl, hb7⟩
        have hT7 := hT6.below hb7
        clear hT6 hc6 hb7
        rw [hNB]
        cases nb
        · go_wp2_with fail
          have tE := tokw_err (hT7)
          obtain ⟨t0, t1, t2, f0, f1, f2⟩ := tE
          have hple := (hT7).pl_cell
          have HTK := Lib.hid (hT7)
          have hlt6 : w.heap.size + 1 < w7.heap.size := by have := hT7.lt; omega
          go_region
          all_goals go_wp2
          all_goals
            refine bodyPost_ret (v := .tuple #[.agg zTok, .iface 110 (.pointer (some ⟨w7.heap.size, 0, none⟩))]) ?_ rfl ?_
            · exact results_row_tmp rfl _ _ (w.heap.size + 1) 27 zTok (0, 0) _ _ rfl rfl (tokw_err_heap HTK.out _ ⟨rfl, rfl, rfl, rfl⟩) Tryz.underlying27 rfl (info_tok _ rfl)
            · rw [(by have h := HQV.out; rw [if_neg (by decide)] at h; exact h.symm : R = .bad 43 at_)]
              exact tokw_err_post HTK.out _ _ _ (rfl) ⟨rfl, rfl, rfl, rfl⟩
        · go_wp2_with fail
          exact hC _ k _ tx _ _ _ _ _ _ _ _ _ _ _ _ _ _ _ _ _ _ _ _ _ _ _ _ _ _ _ _ _ _ _ _ _ _ _ _ _ _ _ _ _ _ _ _ _ _ _ _ _ _ _ _ _ _ _ _ _ _ _ _ _ _ _ _ _ _ _ _ _ _ _ _ _ _ _ _ _ _ _ _ _ _ _ _ _ _ _ _ _ _ _ _ _ _ _ _ _ _ _ _ _ _ _ _ _ _ _ _ _ _ _ _ _ _ _ _ _ _ _ _ _ _ _ _ _ _ _ _ _ _ _ _ _ _ _ _ _ _ _ _ _ _ _ _ _ _ _ _ _ _ _ _ _ _ _ _ _ _ _ _ _ _ _ _ _ _ _ _ _ _ _ _ _ _ _ _ _ _ _ _ _ _ _ _ _ _ _ _ _ _ _ _ _ _ _ _ _ _ _ _ _ _ _ _ _ _ _ _ _ _ _ _ _ _ _ _ _ _ _ _ _ _ _ _ _ _ _ _ _ _ _ _ _ (Lib.hid (by have h := HQV.out; simpa using h)) HTX hT7 hT7.lt
    · have hl : decide (k < s.size) = false := by simpa using hltk
      have hfk : Hid (k = digE s (at_ + 1)) := by rw [← hD.out]; exact Lib.hid (runTo_stop (fun q => hltk q.1)).symm
      go_wp2
      go_quiet (fail)
      go_wp2_with fail
      refine (take_any B b w.heap.size (w.heap.size + 2) s at_ at_ k 4 sp v _ hs (hTr.scan.drewN _) hTr.nm hTr.pl (by omega) (by omega) (by omega)).mono ?_
      rintro e w5 ⟨rfl, hsc5, hkp5⟩
      have hT5 := (hTr.drewN _).step hkp5 hsc5 hbs
      rw [← hfk.out] at HQV
      generalize hTX : s.extract at_ k = tx at HQV ⊢
      have HTX := Lib.hid hTX.symm
      clear hTX hkp5 hsc5
      generalize hNB : isNumB tx = nb at HQV
      go_wp2_with (refine wpList_store_row rfl 27 (.tmp 7) (.tmp 147) rfl (w.heap.size + 3) (tokCells 4 tx at_) rfl rfl 27 zTok hT5.tok (info_tok _ rfl) rfl (tok_cells _ _ _) ?_; have hT6 := hT5.setTok hbs hvl (tokCells 4 tx at_); have hc6 := hT6.tok_text; generalize w5.setRow (w.heap.size + 3) (tokCells 4 tx at_) = W6 at hT6 hc6 ⊢)
      refine (IsNumber_any tx W6).mono ?_
      rintro e w7 ⟨rfl, hb7⟩
      have hT7 := hT6.below hb7
      clear hT6 hc6 hb7
      rw [hNB]
      cases nb
      · go_wp2_with fail
        have tE := tokw_err (hT7)
        obtain ⟨t0, t1, t2, f0, f1, f2⟩ := tE
        have hple := (hT7).pl_cell
        have HTK := Lib.hid (hT7)
        have hlt6 : w.heap.size + 1 < w7.heap.size := by have := hT7.lt; omega
        go_region
        all_goals go_wp2
        all_goals
          refine bodyPost_ret (v := .tuple #[.agg zTok, .iface 110 (.pointer (some ⟨w7.heap.size, 0, none⟩))]) ?_ rfl ?_
          · exact results_row_tmp rfl _ _ (w.heap.size + 1) 27 zTok (0, 0) _ _ rfl rfl (tokw_err_heap HTK.out _ ⟨rfl, rfl, rfl, rfl⟩) Tryz.underlying27 rfl (info_tok _ rfl)
          · rw [(by have h := HQV.out; rw [if_neg (by decide)] at h; exact h.symm : R = .bad 43 at_)]
            exact tokw_err_post HTK.out _ _ _ (rfl) ⟨rfl, rfl, rfl, rfl⟩
      · go_wp2_with fail
        exact hC _ k _ tx _ _ _ _ _ _ _ _ _ _ _ _ _ _ _ _ _ _ _ _ _ _ _ _ _ _ _ _ _ _ _ _ _ _ _ _ _ _ _ _ _ _ _ _ _ _ _ _ _ _ _ _ _ _ _ _ _ _ _ _ _ _ _ _ _ _ _ _ _ _ _ _ _ _ _ _ _ _ _ _ _ _ _ _ _ _ _ _ _ _ _ _ _ _ _ _ _ _ _ _ _ _ _ _ _ _ _ _ _ _ _ _ _ _ _ _ _ _ _ _ _ _ _ _ _ _ _ _ _ _ _ _ _ _ _ _ _ _ _ _ _ _ _ _ _ _ _ _ _ _ _ _ _ _ _ _ _ _ _ _ _ _ _ _ _ _ _ _ _ _ _ _ _ _ _ _ _ _ _ _ _ _ _ _ _ _ _ _ _ _ _ _ _ _ _ _ _ _ _ _ _ _ _ _ _ _ _ _ _ _ _ _ _ _ _ _ _ _ _ _ _ _ _ _ _ _ _ _ _ _ _ _ _ (Lib.hid (by have h := HQV.out; simpa using h)) HTX hT7 hT7.lt
end Go.Proofs.YtmapaagdaojpaaaGreatDoor

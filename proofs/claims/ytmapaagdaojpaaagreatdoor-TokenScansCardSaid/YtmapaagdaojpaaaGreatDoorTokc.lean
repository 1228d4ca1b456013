/- The scanner's token: the way of a keyword. -/
import Derived.Test.YtmapaagdaojpaaaGreatDoorTok
namespace Go.Proofs.YtmapaagdaojpaaaGreatDoor
open Go.RowKit

set_option maxHeartbeats 1000000 in
set_option maxRecDepth 100000 in
theorem way_worda (B b : Nat) (s : ByteArray) (at_ : Nat) (sp : List (Nat × Nat)) (v : Value) (w X : World) (R : TokR) (x : Nat) (cv ix : Int) (C : Code) (hC : TailOk B b s at_ sp v w R C) (hs : s.size ≤ 40000) (hlt : at_ < s.size) (_hB : B ≤ w.heap.size) (_hbB : B ≤ b)
    (hx1 : x < 256) (HB : Hid ((x : Int) = bt s at_)) (HV : Hid (cls x = cv)) (hbs : b < w.heap.size) (hvl : ∀ k, v.ownBlock = some k → k < w.heap.size)
    (hT : TokW B b s at_ at_ sp v w (X.alloc (.cells #[.int .i64 0, .string ⟨#[]⟩, .int .i64 0] 27)) zTok ∧ (X.alloc (.cells #[.int .i64 0, .string ⟨#[]⟩, .int .i64 0] 27)).heap.size = w.heap.size + 4)
    (hR : Hid (tokN s at_ = R)) (hI : ∀ w, Calls Tryz.prog 68 #[.string ⟨#[115, 116, 101]⟩, .int .u8 x] w fun e w' => e = .returned (.int .i64 ix) ∧ w' = w)
    (hnq : ¬ ((x : Int) = 39 ∨ (x : Int) = 34)) (_HST : Hid (¬ (steB (bt s at_) = true ∧ bt s (at_ + 1) = 46))) (hix : ix < 0) (hcv : cv = 0) (h36 : ((x : Int) == 36) = true) (h45 : ((x : Int) == 45) = false) (hny : cls (bt s (at_ + 1)).toNat = 2) (u13 u14 u15 u16 u17 u18 u19 u20 u21 u22 u23 u24 u25 : Value) :
    Code.wp Tryz.prog (.seq (cHd tokRest) (.seq (cHd (cTl tokRest)) (.seq (cHd (cTl (cTl tokRest))) C))) (bodyPost Tryz.prog Tryz.f96 (TokenPost B b s at_ sp v w R)) ⟨#[.pointer (some ⟨b, 0, none⟩), .pointer (some ⟨w.heap.size, 0, none⟩), .pointer (some ⟨w.heap.size + 1, 0, none⟩), .nilIface, .pointer (some ⟨w.heap.size + 2, 0, none⟩), .int .u8 x, undef, undef, undef, undef, undef, undef, undef, u13, u14, u15, u16, u17, u18, u19, u20, u21, u22, u23, u24, u25, undef, undef, undef, undef, undef, undef, undef, undef, undef, undef, undef, undef, undef, undef, undef, undef, undef, undef, undef, undef, undef, undef, undef, undef, undef, undef, undef, undef, undef, undef, undef, undef, undef, undef, undef, undef, undef, undef, undef, undef, undef, undef, undef, undef, undef, undef, undef, undef, undef, undef, undef, undef, undef, undef, undef, undef, undef, undef, undef, undef, undef, undef, undef, undef, undef, undef, undef, undef, undef, undef, undef, undef, undef, undef, undef, undef, undef, undef, undef, undef, undef, undef, undef, undef, undef, undef, undef, undef, undef, undef, undef, undef, undef, undef, undef, undef, undef, undef, undef, undef, undef, undef, undef, undef, undef, undef, undef, undef, undef, undef, undef, undef, undef, undef, undef, undef, undef, undef, undef, undef, undef, undef, undef, undef, undef, undef, undef, undef, undef, undef, undef, undef, undef, undef, undef, undef, undef, undef, undef, undef, undef, undef, undef, undef, undef, undef, undef, undef, undef, undef, undef, undef, undef, undef, undef, undef, undef, undef, undef, undef, undef, undef, undef, undef, undef, undef, undef, undef, undef, undef, undef, undef, undef, undef, undef, undef, undef, undef, undef, undef, undef, undef, undef, undef, undef, undef, undef, undef, undef, undef, undef, undef, undef, undef, undef, undef, undef, undef, undef, undef, undef, undef, undef, undef, undef, undef, undef, undef, undef, undef], []⟩ X.drew := by
  clear _hB _hbB _HST
  have hcl3 := hT.1.scan.row.c2 x hx1
  rw [HV.out] at hcl3
  have hsp3 := hT.1.nm_cell
  have hpl3 := hT.1.pl_cell
  have hc03 := hT.1.scan.row.c0
  have hx2 : (x : Int) < 256 := by omega
  have hX : X.heap.size = w.heap.size + 3 := by have := hT.2; simp at this; omega
  have n39 : ((x : Int) == 39) = false := by simp; omega
  have n34 : ((x : Int) == 34) = false := by simp; omega
  have HQ : Hid (¬ (bt s at_ = 39 ∨ bt s at_ = 34)) := by rw [← HB.out]; exact hnq
  clear hnq
  obtain rfl : cv = 0 := hcv
  have HC : Hid (cls (bt s at_).toNat = 0) := by rw [← HB.out]; exact HV.out
  have i0 : decide (0 ≤ ix) = false := decide_eq_false (by omega)
  have H36 : Hid (bt s at_ = 36) := Lib.hid (by rw [← HB.out]; simpa using h36)
  have HQV := tok_word hR.out H36.out
  rw [if_pos hny] at HQV
  have HQV := Lib.hid HQV
  have e1 : IntKind.i64.wrap ((at_ : Int) + 1) = (at_ : Int) + 1 := IntWalk.i64_in _ (by omega)
  obtain ⟨y, hy⟩ : ∃ y : Nat, bt s (at_ + 1) = y := ⟨(bt s (at_ + 1)).toNat, by have := bt_lo s (at_ + 1); omega⟩
  have hy1 : y < 256 := by have := bt_hi s (at_ + 1); omega
  have hy2 : (y : Int) < 256 := by omega
  have hcy := hT.1.scan.row.c2 y hy1
  generalize hcz : cls y = cz at hcy
  have hcz2 : cz = 2 := by rw [← hcz, ← hny, hy]; rfl
  subst hcz2
  have hfin := runTo_le s (inner dashes) (at_ + 1) (by omega)
  have hrun := fun w hw => run_any b s dashes at_ (at_ + 1) v w hs (by omega) hw
  rw [show ((at_ + 1 : Nat) : Int) = (at_ : Int) + 1 by omega] at hrun
  generalize runTo s (inner dashes) (at_ + 1) = fin at hfin hrun HQV
  conv => arg 2; arg 1; whnf
  conv => arg 2; arg 2; arg 1; whnf
  conv => arg 2; arg 2; arg 2; arg 1; whnf
  go_wp2_with fail
  generalize World.alloc X _ = W4 at hT hcl3 hsp3 hpl3 hc03 hcy ⊢
  refine (hI _).mono ?_
  rintro e w1 ⟨rfl, rfl⟩
  clear hI
  go_wp2_with fail
  go_quiet (fail)
  go_wp2_with fail
  have hnx := fun k => next1 b s at_ v (W4.drewN k) (by omega) (hT.1.scan.drewN k).row
  rw [hy] at hnx
  go_quiet ((go_at_call 112; first | exact quiet_drew hnx | exact quiet_drew1 hnx))
  go_wp2_with fail
  refine (hrun _ (hT.1.scan.drewN _).row).mono ?_
  rintro e w1 ⟨rfl, k2, rfl⟩
  go_wp2_with fail
  refine (take_any B b w.heap.size (w.heap.size + 2) s at_ at_ fin 7 sp v _ hs (hT.1.scan.drewN _) hT.1.nm hT.1.pl (by omega) (by omega) (by omega)).mono ?_
  rintro e w5 ⟨rfl, hsc5, hkp5⟩
  have hT5 := (hT.1.drewN _).step hkp5 hsc5 hbs
  have htx : (s.extract at_ fin).size = fin - at_ := by rw [ByteArray.size_extract]; omega
  generalize hTX : s.extract at_ fin = tx at htx ⊢
  have HTX := Lib.hid hTX.symm
  clear hTX hkp5 hsc5
  clear hrun
  generalize hNB : isKeyB tx = nb
  have HNB := Lib.hid hNB
  clear hNB
  go_wp2_with (refine wpList_store_row rfl 27 (.tmp 7) (.tmp 175) rfl (w.heap.size + 3) (tokCells 7 tx at_) rfl rfl 27 zTok hT5.tok (info_tok _ rfl) rfl (tok_cells _ _ _) ?_; have hT6 := hT5.setTok hbs hvl (tokCells 7 tx at_); have hc6 := hT6.tok_text; generalize w5.setRow (w.heap.size + 3) (tokCells 7 tx at_) = W6 at hT6 hc6 ⊢)
  refine (isKeyword_any tx _).mono ?_
  rintro e w7 ⟨rfl, rfl⟩
  rw [HNB.out]
  cases nb
  · go_wp2_with fail
    have tE := tokw_err (hT6)
    obtain ⟨t0, t1, t2, f0, f1, f2⟩ := tE
    have hple := (hT6).pl_cell
    have HTK := Lib.hid (hT6)
    have hlt6 : w.heap.size + 1 < w7.heap.size := by have := hT6.lt; omega
    go_region
    all_goals go_wp2
    all_goals
      refine bodyPost_ret (v := .tuple #[.agg zTok, .iface 110 (.pointer (some ⟨w7.heap.size, 0, none⟩))]) ?_ rfl ?_
      · exact results_row_tmp rfl _ _ (w.heap.size + 1) 27 zTok (0, 0) _ _ rfl rfl (tokw_err_heap HTK.out _ ⟨rfl, rfl, rfl, rfl⟩) Tryz.underlying27 rfl (info_tok _ rfl)
      · rw [(by have h := HQV.out; rw [← HTX.out, if_neg (by rw [HNB.out]; decide)] at h; exact h.symm : R = .bad 45 at_)]
        exact tokw_err_post HTK.out _ _ _ (rfl) ⟨rfl, rfl, rfl, rfl⟩
  · go_wp2_with fail
    exact hC _ fin _ tx _ _ _ _ _ _ _ _ _ _ _ _ _ _ _ _ _ _ _ _ _ _ _ _ _ _ _ _ _ _ _ _ _ _ _ _ _ _ _ _ _ _ _ _ _ _ _ _ _ _ _ _ _ _ _ _ _ _ _ _ _ _ _ _ _ _ _ _ _ _ _ _ _ _ _ _ _ _ _ _ _ _ _ _ _ _ _ _ _ _ _ _ _ _ _ _ _ _ _ _ _ _ _ _ _ _ _ _ _ _ _ _ _ _ _ _ _ _ _ _ _ _ _ _ _ _ _ _ _ _ _ _ _ _ _ _ _ _ _ _ _ _ _ _ _ _ _ _ _ _ _ _ _ _ _ _ _ _ _ _ _ _ _ _ _ _ _ _ _ _ _ _ _ _ _ _ _ _ _ _ _ _ _ _ _ _ _ _ _ _ _ _ _ _ _ _ _ _ _ _ _ _ _ _ _ _ _ _ _ _ _ _ _ _ _ _ _ _ _ _ _ _ _ _ _ _ _ _ _ _ _ _ _ (by have h := HQV.out; rwa [← HTX.out, if_pos HNB.out] at h) HTX hT6 hT6.lt

set_option maxHeartbeats 1000000 in
set_option maxRecDepth 100000 in
theorem way_wordb (B b : Nat) (s : ByteArray) (at_ : Nat) (sp : List (Nat × Nat)) (v : Value) (w X : World) (R : TokR) (x : Nat) (cv ix : Int) (C : Code) (hC : TailOk B b s at_ sp v w R C) (hs : s.size ≤ 40000) (hlt : at_ < s.size) (_hB : B ≤ w.heap.size) (_hbB : B ≤ b)
    (hx1 : x < 256) (HB : Hid ((x : Int) = bt s at_)) (HV : Hid (cls x = cv)) (hbs : b < w.heap.size) (hvl : ∀ k, v.ownBlock = some k → k < w.heap.size)
    (hT : TokW B b s at_ at_ sp v w (X.alloc (.cells #[.int .i64 0, .string ⟨#[]⟩, .int .i64 0] 27)) zTok ∧ (X.alloc (.cells #[.int .i64 0, .string ⟨#[]⟩, .int .i64 0] 27)).heap.size = w.heap.size + 4)
    (hR : Hid (tokN s at_ = R)) (hI : ∀ w, Calls Tryz.prog 68 #[.string ⟨#[115, 116, 101]⟩, .int .u8 x] w fun e w' => e = .returned (.int .i64 ix) ∧ w' = w)
    (hnq : ¬ ((x : Int) = 39 ∨ (x : Int) = 34)) (_HST : Hid (¬ (steB (bt s at_) = true ∧ bt s (at_ + 1) = 46))) (hix : ix < 0) (hcv : cv = 0) (h36 : ((x : Int) == 36) = true) (h45 : ((x : Int) == 45) = false) (hny : ¬ cls (bt s (at_ + 1)).toNat = 2) (u13 u14 u15 u16 u17 u18 u19 u20 u21 u22 u23 u24 u25 : Value) :
    Code.wp Tryz.prog (.seq (cHd tokRest) (.seq (cHd (cTl tokRest)) (.seq (cHd (cTl (cTl tokRest))) C))) (bodyPost Tryz.prog Tryz.f96 (TokenPost B b s at_ sp v w R)) ⟨#[.pointer (some ⟨b, 0, none⟩), .pointer (some ⟨w.heap.size, 0, none⟩), .pointer (some ⟨w.heap.size + 1, 0, none⟩), .nilIface, .pointer (some ⟨w.heap.size + 2, 0, none⟩), .int .u8 x, undef, undef, undef, undef, undef, undef, undef, u13, u14, u15, u16, u17, u18, u19, u20, u21, u22, u23, u24, u25, undef, undef, undef, undef, undef, undef, undef, undef, undef, undef, undef, undef, undef, undef, undef, undef, undef, undef, undef, undef, undef, undef, undef, undef, undef, undef, undef, undef, undef, undef, undef, undef, undef, undef, undef, undef, undef, undef, undef, undef, undef, undef, undef, undef, undef, undef, undef, undef, undef, undef, undef, undef, undef, undef, undef, undef, undef, undef, undef, undef, undef, undef, undef, undef, undef, undef, undef, undef, undef, undef, undef, undef, undef, undef, undef, undef, undef, undef, undef, undef, undef, undef, undef, undef, undef, undef, undef, undef, undef, undef, undef, undef, undef, undef, undef, undef, undef, undef, undef, undef, undef, undef, undef, undef, undef, undef, undef, undef, undef, undef, undef, undef, undef, undef, undef, undef, undef, undef, undef, undef, undef, undef, undef, undef, undef, undef, undef, undef, undef, undef, undef, undef, undef, undef, undef, undef, undef, undef, undef, undef, undef, undef, undef, undef, undef, undef, undef, undef, undef, undef, undef, undef, undef, undef, undef, undef, undef, undef, undef, undef, undef, undef, undef, undef, undef, undef, undef, undef, undef, undef, undef, undef, undef, undef, undef, undef, undef, undef, undef, undef, undef, undef, undef, undef, undef, undef, undef, undef, undef, undef, undef, undef, undef, undef, undef, undef, undef, undef, undef, undef, undef, undef, undef, undef, undef, undef, undef, undef, undef, undef], []⟩ X.drew := by
  clear _hB _hbB _HST
  have hcl3 := hT.1.scan.row.c2 x hx1
  rw [HV.out] at hcl3
  have hsp3 := hT.1.nm_cell
  have hpl3 := hT.1.pl_cell
  have hc03 := hT.1.scan.row.c0
  have hx2 : (x : Int) < 256 := by omega
  have hX : X.heap.size = w.heap.size + 3 := by have := hT.2; simp at this; omega
  have n39 : ((x : Int) == 39) = false := by simp; omega
  have n34 : ((x : Int) == 34) = false := by simp; omega
  have HQ : Hid (¬ (bt s at_ = 39 ∨ bt s at_ = 34)) := by rw [← HB.out]; exact hnq
  clear hnq
  obtain rfl : cv = 0 := hcv
  have HC : Hid (cls (bt s at_).toNat = 0) := by rw [← HB.out]; exact HV.out
  have i0 : decide (0 ≤ ix) = false := decide_eq_false (by omega)
  have H36 : Hid (bt s at_ = 36) := Lib.hid (by rw [← HB.out]; simpa using h36)
  have HQV := tok_word hR.out H36.out
  rw [if_neg hny] at HQV
  have HQV := Lib.hid HQV
  have e1 : IntKind.i64.wrap ((at_ : Int) + 1) = (at_ : Int) + 1 := IntWalk.i64_in _ (by omega)
  obtain ⟨y, hy⟩ : ∃ y : Nat, bt s (at_ + 1) = y := ⟨(bt s (at_ + 1)).toNat, by have := bt_lo s (at_ + 1); omega⟩
  have hy1 : y < 256 := by have := bt_hi s (at_ + 1); omega
  have hy2 : (y : Int) < 256 := by omega
  have hcy := hT.1.scan.row.c2 y hy1
  generalize hcz : cls y = cz at hcy
  have hcz2 : (cz == 2) = false := by rw [hy] at hny; have : ¬ cz = 2 := by rw [← hcz]; exact hny
                                      simpa using this
  obtain ⟨fin, hfn⟩ : ∃ fin, at_ + 1 = fin := ⟨_, rfl⟩
  rw [hfn] at HQV
  have hfn2 : (at_ : Int) + 1 = (fin : Int) := by omega
  rw [hfn2] at e1
  conv => arg 2; arg 1; whnf
  conv => arg 2; arg 2; arg 1; whnf
  conv => arg 2; arg 2; arg 2; arg 1; whnf
  go_wp2_with fail
  generalize World.alloc X _ = W4 at hT hcl3 hsp3 hpl3 hc03 hcy ⊢
  refine (hI _).mono ?_
  rintro e w1 ⟨rfl, rfl⟩
  clear hI
  go_wp2_with fail
  go_quiet (fail)
  go_wp2_with fail
  have hnx := fun k => next1 b s at_ v (W4.drewN k) (by omega) (hT.1.scan.drewN k).row
  rw [hy] at hnx
  go_quiet ((go_at_call 112; first | exact quiet_drew hnx | exact quiet_drew1 hnx))
  go_wp2_with fail
  refine (take_any B b w.heap.size (w.heap.size + 2) s at_ at_ fin 7 sp v _ hs (hT.1.scan.drewN _) hT.1.nm hT.1.pl (by omega) (by omega) (by omega)).mono ?_
  rintro e w5 ⟨rfl, hsc5, hkp5⟩
  have hT5 := (hT.1.drewN _).step hkp5 hsc5 hbs
  have htx : (s.extract at_ fin).size = fin - at_ := by rw [ByteArray.size_extract]; omega
  generalize hTX : s.extract at_ fin = tx at htx ⊢
  have HTX := Lib.hid hTX.symm
  clear hTX hkp5 hsc5
  generalize hNB : isKeyB tx = nb
  have HNB := Lib.hid hNB
  clear hNB
  go_wp2_with (refine wpList_store_row rfl 27 (.tmp 7) (.tmp 175) rfl (w.heap.size + 3) (tokCells 7 tx at_) rfl rfl 27 zTok hT5.tok (info_tok _ rfl) rfl (tok_cells _ _ _) ?_; have hT6 := hT5.setTok hbs hvl (tokCells 7 tx at_); have hc6 := hT6.tok_text; generalize w5.setRow (w.heap.size + 3) (tokCells 7 tx at_) = W6 at hT6 hc6 ⊢)
  refine (isKeyword_any tx _).mono ?_
  rintro e w7 ⟨rfl, rfl⟩
  rw [HNB.out]
  cases nb
  · go_wp2_with fail
    have tE := tokw_err (hT6)
    obtain ⟨t0, t1, t2, f0, f1, f2⟩ := tE
    have hple := (hT6).pl_cell
    have HTK := Lib.hid (hT6)
    have hlt6 : w.heap.size + 1 < w7.heap.size := by have := hT6.lt; omega
    go_region
    all_goals go_wp2
    all_goals
      refine bodyPost_ret (v := .tuple #[.agg zTok, .iface 110 (.pointer (some ⟨w7.heap.size, 0, none⟩))]) ?_ rfl ?_
      · exact results_row_tmp rfl _ _ (w.heap.size + 1) 27 zTok (0, 0) _ _ rfl rfl (tokw_err_heap HTK.out _ ⟨rfl, rfl, rfl, rfl⟩) Tryz.underlying27 rfl (info_tok _ rfl)
      · rw [(by have h := HQV.out; rw [← HTX.out, if_neg (by rw [HNB.out]; decide)] at h; exact h.symm : R = .bad 45 at_)]
        exact tokw_err_post HTK.out _ _ _ (rfl) ⟨rfl, rfl, rfl, rfl⟩
  · go_wp2_with fail
    exact hC _ fin _ tx _ _ _ _ _ _ _ _ _ _ _ _ _ _ _ _ _ _ _ _ _ _ _ _ _ _ _ _ _ _ _ _ _ _ _ _ _ _ _ _ _ _ _ _ _ _ _ _ _ _ _ _ _ _ _ _ _ _ _ _ _ _ _ _ _ _ _ _ _ _ _ _ _ _ _ _ _ _ _ _ _ _ _ _ _ _ _ _ _ _ _ _ _ _ _ _ _ _ _ _ _ _ _ _ _ _ _ _ _ _ _ _ _ _ _ _ _ _ _ _ _ _ _ _ _ _ _ _ _ _ _ _ _ _ _ _ _ _ _ _ _ _ _ _ _ _ _ _ _ _ _ _ _ _ _ _ _ _ _ _ _ _ _ _ _ _ _ _ _ _ _ _ _ _ _ _ _ _ _ _ _ _ _ _ _ _ _ _ _ _ _ _ _ _ _ _ _ _ _ _ _ _ _ _ _ _ _ _ _ _ _ _ _ _ _ _ _ _ _ _ _ _ _ _ _ _ _ _ _ _ _ _ _ (by have h := HQV.out; rwa [← HTX.out, if_pos HNB.out] at h) HTX hT6 hT6.lt

set_option maxHeartbeats 1000000 in
set_option maxRecDepth 100000 in
theorem way_none2 (B b : Nat) (s : ByteArray) (at_ : Nat) (sp : List (Nat × Nat)) (v : Value) (w X : World) (R : TokR) (x : Nat) (cv ix : Int) (C : Code) (_hC : TailOk B b s at_ sp v w R C) (hs : s.size ≤ 40000) (hlt : at_ < s.size) (_hB : B ≤ w.heap.size) (_hbB : B ≤ b)
    (hx1 : x < 256) (HB : Hid ((x : Int) = bt s at_)) (HV : Hid (cls x = cv)) (_hbs : b < w.heap.size) (_hvl : ∀ k, v.ownBlock = some k → k < w.heap.size)
    (hT : TokW B b s at_ at_ sp v w (X.alloc (.cells #[.int .i64 0, .string ⟨#[]⟩, .int .i64 0] 27)) zTok ∧ (X.alloc (.cells #[.int .i64 0, .string ⟨#[]⟩, .int .i64 0] 27)).heap.size = w.heap.size + 4)
    (hR : Hid (tokN s at_ = R)) (hI : ∀ w, Calls Tryz.prog 68 #[.string ⟨#[115, 116, 101]⟩, .int .u8 x] w fun e w' => e = .returned (.int .i64 ix) ∧ w' = w)
    (hnq : ¬ ((x : Int) = 39 ∨ (x : Int) = 34)) (HST : Hid (¬ (steB (bt s at_) = true ∧ bt s (at_ + 1) = 46))) (hix : ix < 0) (hcv : cv = 0) (h45 : ((x : Int) == 45) = true) (hny : ¬ cls (bt s (at_ + 1)).toNat = 3) (u13 u14 u15 u16 u17 u18 u19 u20 u21 u22 u23 u24 u25 : Value) :
    Code.wp Tryz.prog (.seq (cHd tokRest) (.seq (cHd (cTl tokRest)) (.seq (cHd (cTl (cTl tokRest))) C))) (bodyPost Tryz.prog Tryz.f96 (TokenPost B b s at_ sp v w R)) ⟨#[.pointer (some ⟨b, 0, none⟩), .pointer (some ⟨w.heap.size, 0, none⟩), .pointer (some ⟨w.heap.size + 1, 0, none⟩), .nilIface, .pointer (some ⟨w.heap.size + 2, 0, none⟩), .int .u8 x, undef, undef, undef, undef, undef, undef, undef, u13, u14, u15, u16, u17, u18, u19, u20, u21, u22, u23, u24, u25, undef, undef, undef, undef, undef, undef, undef, undef, undef, undef, undef, undef, undef, undef, undef, undef, undef, undef, undef, undef, undef, undef, undef, undef, undef, undef, undef, undef, undef, undef, undef, undef, undef, undef, undef, undef, undef, undef, undef, undef, undef, undef, undef, undef, undef, undef, undef, undef, undef, undef, undef, undef, undef, undef, undef, undef, undef, undef, undef, undef, undef, undef, undef, undef, undef, undef, undef, undef, undef, undef, undef, undef, undef, undef, undef, undef, undef, undef, undef, undef, undef, undef, undef, undef, undef, undef, undef, undef, undef, undef, undef, undef, undef, undef, undef, undef, undef, undef, undef, undef, undef, undef, undef, undef, undef, undef, undef, undef, undef, undef, undef, undef, undef, undef, undef, undef, undef, undef, undef, undef, undef, undef, undef, undef, undef, undef, undef, undef, undef, undef, undef, undef, undef, undef, undef, undef, undef, undef, undef, undef, undef, undef, undef, undef, undef, undef, undef, undef, undef, undef, undef, undef, undef, undef, undef, undef, undef, undef, undef, undef, undef, undef, undef, undef, undef, undef, undef, undef, undef, undef, undef, undef, undef, undef, undef, undef, undef, undef, undef, undef, undef, undef, undef, undef, undef, undef, undef, undef, undef, undef, undef, undef, undef, undef, undef, undef, undef, undef, undef, undef, undef, undef, undef, undef, undef, undef, undef, undef, undef, undef], []⟩ X.drew := by
  clear _hC _hB _hbB _hbs _hvl
  have hcl3 := hT.1.scan.row.c2 x hx1
  rw [HV.out] at hcl3
  have hsp3 := hT.1.nm_cell
  have hpl3 := hT.1.pl_cell
  have hc03 := hT.1.scan.row.c0
  have hx2 : (x : Int) < 256 := by omega
  have hX : X.heap.size = w.heap.size + 3 := by have := hT.2; simp at this; omega
  have n39 : ((x : Int) == 39) = false := by simp; omega
  have n34 : ((x : Int) == 34) = false := by simp; omega
  have HQ : Hid (¬ (bt s at_ = 39 ∨ bt s at_ = 34)) := by rw [← HB.out]; exact hnq
  clear hnq
  obtain rfl : cv = 0 := hcv
  have HC : Hid (cls (bt s at_).toNat = 0) := by rw [← HB.out]; exact HV.out
  obtain ⟨y, hy⟩ : ∃ y : Nat, bt s (at_ + 1) = y := ⟨(bt s (at_ + 1)).toNat, by have := bt_lo s (at_ + 1); omega⟩
  have hy1 : y < 256 := by have := bt_hi s (at_ + 1); omega
  have hy2 : (y : Int) < 256 := by omega
  have hcy := hT.1.scan.row.c2 y hy1
  generalize hcz : cls y = cz at hcy
  have hcz2 : (cz == 3) = false := by
    rw [hy] at hny
    have : ¬ cz = 3 := by rw [← hcz]; exact hny
    simpa using this
  have i0 : decide (0 ≤ ix) = false := decide_eq_false (by omega)
  have n36 : ((x : Int) == 36) = false := by simp at h45 ⊢; omega
  have HN : Hid (R = .bad 40 at_) := tok_none hR.out HQ.out (by rw [HC.out]; decide) (HST.out) (by rw [HC.out]; decide) (by rintro (q | q); rw [HC.out] at q; exact absurd q (by decide); exact hny q.2) (by rw [← HB.out]; simpa using n36)
  conv => arg 2; arg 1; whnf
  conv => arg 2; arg 2; arg 1; whnf
  conv => arg 2; arg 2; arg 2; arg 1; whnf
  go_wp2_with fail
  generalize World.alloc X _ = W4 at hT hcl3 hsp3 hpl3 hc03 hcy ⊢
  refine (hI _).mono ?_
  rintro e w1 ⟨rfl, rfl⟩
  clear hI
  go_wp2_with fail
  have hnx := fun k => next1 b s at_ v (W4.drewN k) (by omega) (hT.1.scan.drewN k).row
  rw [hy] at hnx
  go_quiet ((go_at_call 112; first | exact quiet_drew hnx | exact quiet_drew1 hnx))
  go_wp2_with fail
  have tE := tokw_err (hT.1)
  obtain ⟨t0, t1, t2, f0, f1, f2⟩ := tE
  have hple := (hT.1).pl_cell
  have HTK := Lib.hid (hT.1)
  skip
  go_region
  all_goals go_wp2
  all_goals
    refine bodyPost_ret (v := .tuple #[.agg zTok, .iface 110 (.pointer (some ⟨w.heap.size + 4, 0, none⟩))]) ?_ rfl ?_
    · exact results_row_tmp rfl _ _ (w.heap.size + 1) 27 zTok (0, 0) _ _ rfl rfl (tokw_err_heap HTK.out _ ⟨rfl, rfl, rfl, rfl⟩) Tryz.underlying27 rfl (info_tok _ rfl)
    · rw [HN.out]
      exact tokw_err_post HTK.out _ _ _ (hT.2) ⟨rfl, rfl, rfl, rfl⟩

end Go.Proofs.YtmapaagdaojpaaaGreatDoor

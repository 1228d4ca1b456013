/- A part of the proof; it holds the texts Tokc Tokd (names and blanks shortened). -/
import Derived.Test.YteamjdmhdfjopaaGreatDoorC26
namespace Go.Proofs.YteamjdmhdfjopaaGreatDoor
open Go.RowKit
set_option maxRecDepth 100000
set_option maxHeartbeats 8000000
set_option linter.unusedVariables false
set_option linter.unusedSimpArgs false
set_option linter.unnecessarySimpa false
section
variable (B b:Nat)(s:ByteArray)(at_:Nat)(sp:List (Nat×Nat))(v:Value)(w X:World)(R:TokR)(x:Nat)(cv ix:Int)(C:Code)
theorem YlU:Arm B b s at_ sp v w X R x cv ix C (¬((x:Int)=39\/(x:Int)=34)->Hid (¬(steB (bt s at_)=true/\bt s (at_+1)=46))->ix<0->cv=0->((x:Int)==36)=true->((x:Int)==45)=false->cls (bt s (at_+1)).toNat=2->Yei B b s at_ sp v w X R x C):=by
 intro hC hs hlt _hB _hbB hx1 HB HV hbs hvl hT hR hI hnq _HST hix hcv h36 h45 hny u13 u14 u15 u16 u17 u18 u19 u20 u21 u22 u23 u24 u25;clear _hB _hbB _HST;have hcl3:=hT.1.scan.row.c2 x hx1;rw[HV.out] at hcl3;have hsp3:=hT.1.nm_cell;have hpl3:=hT.1.pl_cell;have hc03:=hT.1.scan.row.c0;have hx2:(x:Int)<256:=Zo;have hX:X.heap.size=w.heap.size+3:=by have:=hT.2; simp at this; omega
 have n39:((x:Int)==39)=false:=by simp; omega
 have n34:((x:Int)==34)=false:=by simp; omega
 have HQ:Hid (¬(bt s at_=39\/bt s at_=34)):=by rw[<-HB.out]; exact hnq
 clear hnq;obtain rfl:cv=0:=hcv;have HC:Hid (cls (bt s at_).toNat=0):=by rw[<-HB.out]; exact HV.out
 have i0:decide (0<=ix)=false:=Zf;have H36:Hid (bt s at_=36):=Zh (by rw[<-HB.out]; simpa using h36);have HQV:=Yen hR.out H36.out;rw[if_pos hny] at HQV;have HQV:=Zh HQV;have e1:IntKind.i64.wrap ((at_:Int)+1)=(at_:Int)+1:=IntWalk.i64_in _ Zo;obtain⟨y,hy⟩:∃y:Nat,bt s (at_+1)=y:=⟨(bt s (at_+1)).toNat,by have:=Yan s (at_+1); omega⟩;have hy1:y<256:=by have:=YaU s (at_+1); omega
 have hy2:(y:Int)<256:=Zo;have hcy:=hT.1.scan.row.c2 y hy1;generalize hcz:cls y=cz at hcy;have hcz2:cz=2:=by rw[<-hcz,<-hny,hy]; rfl
 subst hcz2;have hfin:=YW s (inner Yj) (at_+1) Zo;have hrun:=fun w hw=>run_any b s Yj at_ (at_+1) v w hs Zo hw;rw[show((at_+1:Nat):Int)=(at_:Int)+1 by omega] at hrun;generalize Yf s (inner Yj) (at_+1)=fin at hfin hrun HQV;conv=>arg 2; arg 1; whnf
 conv=>arg 2; arg 2; arg 1; whnf
 conv=>arg 2; arg 2; arg 2; arg 1; whnf
 go_wp2_with fail;generalize World.alloc X _=W4 at hT hcl3 hsp3 hpl3 hc03 hcy⊢;refine(hI _).mono ?_;rintro e w1 ⟨rfl,rfl⟩;clear hI;go_wp2_with fail;go_quiet (fail)
 go_wp2_with fail;have hnx:=fun k=>Ye3 b s at_ v (W4.drewN k) Zo (hT.1.scan.drewN k).row;rw[hy] at hnx;go_quiet ((go_at_call 211; first | exact Yck hnx | exact Ybu hnx))
 go_wp2_with fail;refine(hrun _ (hT.1.scan.drewN _).row).mono ?_;rintro e w1 ⟨rfl,k2,rfl⟩;go_wp2_with fail;refine(take_any B b w.heap.size (w.heap.size+2) s at_ at_ fin 7 sp v _ hs (hT.1.scan.drewN _) hT.1.nm hT.1.pl Zo Zo Zo).mono ?_;rintro e w5 ⟨rfl,hsc5,hkp5⟩;have hT5:=(hT.1.drewN _).step hkp5 hsc5 hbs;have htx:(s.extract at_ fin).size=fin - at_:=by rw[ByteArray.size_extract]; omega
 generalize hTX:s.extract at_ fin=tx at htx⊢;have HTX:=Zh hTX.symm;clear hTX hkp5 hsc5;clear hrun;generalize hNB:YaR tx=nb;have HNB:=Zh hNB;clear hNB;go_wp2_with (refine wpList_store_row rfl 136 (.tmp 7) (.tmp 175) rfl (w.heap.size+3) (Yd 7 tx at_) rfl rfl 136 zTok hT5.tok (Yb _ rfl) rfl (YR _ _ _) ?_; have hT6:=hT5.setTok hbs hvl (Yd 7 tx at_); have hc6:=hT6.tok_text; generalize w5.setRow (w.heap.size+3) (Yd 7 tx at_)=W6 at hT6 hc6⊢);refine(Ybx tx _).mono ?_;rintro e w7 ⟨rfl,rfl⟩;rw[HNB.out];cases nb
 ·go_wp2_with fail;have tE:=Jb (hT6);obtain⟨t0,t1,t2,f0,f1,f2⟩:=tE;have hple:=(hT6).pl_cell;have HTK:=Zh (hT6);have hlt6:w.heap.size+1<w7.heap.size:=by have:=hT6.lt; omega
  go_region
  all_goals go_wp2
  all_goals
   refine bodyPost_ret (v:=.tuple #[.agg zTok,.iface 190 (.pointer (some ⟨w7.heap.size,0,none⟩))]) ?_ rfl ?_
   ·exact Ya rfl _ _ (w.heap.size+1) 136 zTok (0,0) _ _ rfl rfl (Yn HTK.out _ ⟨rfl,rfl,rfl,rfl⟩) Tryz.underlying136 rfl (Yb _ rfl)
   ·rw[(by have h:=HQV.out; rw[<-HTX.out,if_neg (by rw[HNB.out]; decide)] at h; exact h.symm:R= .bad 45 at_)];exact Ym HTK.out _ _ _ (rfl) ⟨rfl,rfl,rfl,rfl⟩
 ·go_wp2_with fail;apply hC _ fin _ tx (by have h:=HQV.out; rwa [<-HTX.out,if_pos HNB.out] at h) HTX hT6 hT6.lt
theorem YlT:Arm B b s at_ sp v w X R x cv ix C (¬((x:Int)=39\/(x:Int)=34)->Hid (¬(steB (bt s at_)=true/\bt s (at_+1)=46))->ix<0->cv=0->((x:Int)==36)=true->((x:Int)==45)=false->¬cls (bt s (at_+1)).toNat=2->Yei B b s at_ sp v w X R x C):=by
 intro hC hs hlt _hB _hbB hx1 HB HV hbs hvl hT hR hI hnq _HST hix hcv h36 h45 hny u13 u14 u15 u16 u17 u18 u19 u20 u21 u22 u23 u24 u25;clear _hB _hbB _HST;have hcl3:=hT.1.scan.row.c2 x hx1;rw[HV.out] at hcl3;have hsp3:=hT.1.nm_cell;have hpl3:=hT.1.pl_cell;have hc03:=hT.1.scan.row.c0;have hx2:(x:Int)<256:=Zo;have hX:X.heap.size=w.heap.size+3:=by have:=hT.2; simp at this; omega
 have n39:((x:Int)==39)=false:=by simp; omega
 have n34:((x:Int)==34)=false:=by simp; omega
 have HQ:Hid (¬(bt s at_=39\/bt s at_=34)):=by rw[<-HB.out]; exact hnq
 clear hnq;obtain rfl:cv=0:=hcv;have HC:Hid (cls (bt s at_).toNat=0):=by rw[<-HB.out]; exact HV.out
 have i0:decide (0<=ix)=false:=Zf;have H36:Hid (bt s at_=36):=Zh (by rw[<-HB.out]; simpa using h36);have HQV:=Yen hR.out H36.out;rw[if_neg hny] at HQV;have HQV:=Zh HQV;have e1:IntKind.i64.wrap ((at_:Int)+1)=(at_:Int)+1:=IntWalk.i64_in _ Zo;obtain⟨y,hy⟩:∃y:Nat,bt s (at_+1)=y:=⟨(bt s (at_+1)).toNat,by have:=Yan s (at_+1); omega⟩;have hy1:y<256:=by have:=YaU s (at_+1); omega
 have hy2:(y:Int)<256:=Zo;have hcy:=hT.1.scan.row.c2 y hy1;generalize hcz:cls y=cz at hcy;have hcz2:(cz==2)=false:=by
                                                                                                      rw[hy] at hny; have:¬cz=2:=by rw[<-hcz]; exact hny
                                                                                                      simpa using this
 obtain⟨fin,hfn⟩:∃fin,at_+1=fin:=⟨_,rfl⟩;rw[hfn] at HQV;have hfn2:(at_:Int)+1=(fin:Int):=Zo;rw[hfn2] at e1;conv=>arg 2; arg 1; whnf
 conv=>arg 2; arg 2; arg 1; whnf
 conv=>arg 2; arg 2; arg 2; arg 1; whnf
 go_wp2_with fail;generalize World.alloc X _=W4 at hT hcl3 hsp3 hpl3 hc03 hcy⊢;refine(hI _).mono ?_;rintro e w1 ⟨rfl,rfl⟩;clear hI;go_wp2_with fail;go_quiet (fail)
 go_wp2_with fail;have hnx:=fun k=>Ye3 b s at_ v (W4.drewN k) Zo (hT.1.scan.drewN k).row;rw[hy] at hnx;go_quiet ((go_at_call 211; first | exact Yck hnx | exact Ybu hnx))
 go_wp2_with fail;refine(take_any B b w.heap.size (w.heap.size+2) s at_ at_ fin 7 sp v _ hs (hT.1.scan.drewN _) hT.1.nm hT.1.pl Zo Zo Zo).mono ?_;rintro e w5 ⟨rfl,hsc5,hkp5⟩;have hT5:=(hT.1.drewN _).step hkp5 hsc5 hbs;have htx:(s.extract at_ fin).size=fin - at_:=by rw[ByteArray.size_extract]; omega
 generalize hTX:s.extract at_ fin=tx at htx⊢;have HTX:=Zh hTX.symm;clear hTX hkp5 hsc5;generalize hNB:YaR tx=nb;have HNB:=Zh hNB;clear hNB;go_wp2_with (refine wpList_store_row rfl 136 (.tmp 7) (.tmp 175) rfl (w.heap.size+3) (Yd 7 tx at_) rfl rfl 136 zTok hT5.tok (Yb _ rfl) rfl (YR _ _ _) ?_; have hT6:=hT5.setTok hbs hvl (Yd 7 tx at_); have hc6:=hT6.tok_text; generalize w5.setRow (w.heap.size+3) (Yd 7 tx at_)=W6 at hT6 hc6⊢);refine(Ybx tx _).mono ?_;rintro e w7 ⟨rfl,rfl⟩;rw[HNB.out];cases nb
 ·go_wp2_with fail;have tE:=Jb (hT6);obtain⟨t0,t1,t2,f0,f1,f2⟩:=tE;have hple:=(hT6).pl_cell;have HTK:=Zh (hT6);have hlt6:w.heap.size+1<w7.heap.size:=by have:=hT6.lt; omega
  go_region
  all_goals go_wp2
  all_goals
   refine bodyPost_ret (v:=.tuple #[.agg zTok,.iface 190 (.pointer (some ⟨w7.heap.size,0,none⟩))]) ?_ rfl ?_
   ·exact Ya rfl _ _ (w.heap.size+1) 136 zTok (0,0) _ _ rfl rfl (Yn HTK.out _ ⟨rfl,rfl,rfl,rfl⟩) Tryz.underlying136 rfl (Yb _ rfl)
   ·rw[(by have h:=HQV.out; rw[<-HTX.out,if_neg (by rw[HNB.out]; decide)] at h; exact h.symm:R= .bad 45 at_)];exact Ym HTK.out _ _ _ (rfl) ⟨rfl,rfl,rfl,rfl⟩
 ·go_wp2_with fail;apply hC _ fin _ tx (by have h:=HQV.out; rwa [<-HTX.out,if_pos HNB.out] at h) HTX hT6 hT6.lt
theorem YlX:Arm B b s at_ sp v w X R x cv ix C (¬((x:Int)=39\/(x:Int)=34)->Hid (¬(steB (bt s at_)=true/\bt s (at_+1)=46))->ix<0->cv=0->((x:Int)==45)=true->¬cls (bt s (at_+1)).toNat=3->Yei B b s at_ sp v w X R x C):=by
 intro _hC hs hlt _hB _hbB hx1 HB HV _hbs _hvl hT hR hI hnq HST hix hcv h45 hny u13 u14 u15 u16 u17 u18 u19 u20 u21 u22 u23 u24 u25;clear _hC _hB _hbB _hbs _hvl;have hcl3:=hT.1.scan.row.c2 x hx1;rw[HV.out] at hcl3;have hsp3:=hT.1.nm_cell;have hpl3:=hT.1.pl_cell;have hc03:=hT.1.scan.row.c0;have hx2:(x:Int)<256:=Zo;have hX:X.heap.size=w.heap.size+3:=by have:=hT.2; simp at this; omega
 have n39:((x:Int)==39)=false:=by simp; omega
 have n34:((x:Int)==34)=false:=by simp; omega
 have HQ:Hid (¬(bt s at_=39\/bt s at_=34)):=by rw[<-HB.out]; exact hnq
 clear hnq;obtain rfl:cv=0:=hcv;have HC:Hid (cls (bt s at_).toNat=0):=by rw[<-HB.out]; exact HV.out
 obtain⟨y,hy⟩:∃y:Nat,bt s (at_+1)=y:=⟨(bt s (at_+1)).toNat,by have:=Yan s (at_+1); omega⟩;have hy1:y<256:=by have:=YaU s (at_+1); omega
 have hy2:(y:Int)<256:=Zo;have hcy:=hT.1.scan.row.c2 y hy1;generalize hcz:cls y=cz at hcy;have hcz2:(cz==3)=false:=by
  rw[hy] at hny;have:¬cz=3:=by rw[<-hcz]; exact hny
  simpa using this
 have i0:decide (0<=ix)=false:=Zf;have n36:((x:Int)==36)=false:=by simp at h45⊢; omega
 have HN:Hid (R= .bad 40 at_):=YgQ hR.out HQ.out (by rw[HC.out]; decide) (HST.out) (by rw[HC.out]; decide) (by rintro(q | q); rw[HC.out] at q; exact absurd q Zd; exact hny q.2) (by rw[<-HB.out]; simpa using n36);conv=>arg 2; arg 1; whnf
 conv=>arg 2; arg 2; arg 1; whnf
 conv=>arg 2; arg 2; arg 2; arg 1; whnf
 go_wp2_with fail;generalize World.alloc X _=W4 at hT hcl3 hsp3 hpl3 hc03 hcy⊢;refine(hI _).mono ?_;rintro e w1 ⟨rfl,rfl⟩;clear hI;go_wp2_with fail;have hnx:=fun k=>Ye3 b s at_ v (W4.drewN k) Zo (hT.1.scan.drewN k).row;rw[hy] at hnx;go_quiet ((go_at_call 211; first | exact Yck hnx | exact Ybu hnx))
 go_wp2_with fail;have tE:=Jb (hT.1);obtain⟨t0,t1,t2,f0,f1,f2⟩:=tE;have hple:=(hT.1).pl_cell;have HTK:=Zh (hT.1);skip;go_region
 all_goals go_wp2
 all_goals
  refine bodyPost_ret (v:=.tuple #[.agg zTok,.iface 190 (.pointer (some ⟨w.heap.size+4,0,none⟩))]) ?_ rfl ?_
  ·exact Ya rfl _ _ (w.heap.size+1) 136 zTok (0,0) _ _ rfl rfl (Yn HTK.out _ ⟨rfl,rfl,rfl,rfl⟩) Tryz.underlying136 rfl (Yb _ rfl)
  ·rw[HN.out];exact Ym HTK.out _ _ _ (hT.2) ⟨rfl,rfl,rfl,rfl⟩
end
theorem Yp0 (B b:Nat)(s:ByteArray)(at_:Nat)(sp:List (Nat×Nat))(v:Value)(w:World)(R:TokR)(hs:s.size<=40000)(hbs:b<w.heap.size)(hvl:∀k,v.ownBlock=some k->k<w.heap.size):YpW B b s at_ sp v w R J7:=by
 intro kind fin wr tx HNr HTX hT hlw u0 u3 u4 u5 u6 u8 u9 u10 u11 u12 u13 u14 u15 u16 u17 u18 u19 u20 u21 u22 u23 u24 u25 u26 u27 u28 u29 u30 u31 u32 u33 u34 u35 u36 u37 u38 u39 u40 u41 u42 u43 u44 u45 u46 u47 u48 u49 u50 u51 u52 u53 u54 u55 u56 u57 u58 u59 u60 u61 u62 u63 u64 u65 u66 u67 u68 u69 u70 u71 u72 u73 u74 u75 u76 u77 u78 u79 u80 u81 u82 u83 u84 u85 u86 u87 u88 u89 u90 u91 u92 u93 u94 u95 u96 u97 u98 u99 u100 u101 u102 u103 u104 u105 u106 u107 u108 u109 u110 u111 u112 u113 u114 u115 u116 u117 u118 u119 u120 u121 u122 u123 u124 u125 u126 u127 u128 u129 u130 u131 u132 u133 u134 u135 u136 u137 u138 u139 u140 u141 u142 u143 u144 u145 u146 u147 u148 u149 u150 u151 u152 u153 u154 u155 u156 u157 u158 u159 u160 u161 u162 u163 u164 u165 u166 u167 u168 u169 u170 u171 u172 u173 u174 u175 u176 u177 u178 u179 u180 u181 u182 u183 u184 u185 u186 u187 u188 u189 u190 u191 u192 u193 u194 u195 u196 u197 u198 u199 u200 u201 u202 u203 u204 u205 u206 u207 u208 u209 u210 u211 u212 u213 u214 u215 u216 u217 u218 u219 u220 u221 u222 u223 u224 u225 u226 u227 u228 u229 u230 u231 u232 u233 u234 u235;have hp:=hT.nm_cell;have hc0:=hT.scan.row.c0;have hc1:=hT.scan.row.c1;have hfs:=hT.scan.le;obtain⟨y,hy⟩:∃y:Nat,bt s fin=y:=⟨(bt s fin).toNat,by have:=Yan s fin; omega⟩;have hy1:y<256:=by have:=YaU s fin; omega
 have hy2:(y:Int)<256:=Zo;have hcy:=hT.scan.row.c2 y hy1;have HE:Hid (Ycr s fin=(decide (fin<s.size)&&(cls y==2||cls y==3||(y:Int)==45||(y:Int)==95||(y:Int)==46))):=by
  unfold Ycr; rw[hy]; rfl
 generalize cls y=cz at hcy HE;conv=>arg 2; whnf
 go_wp2_with fail;refine(Yig b s fin v wr Zo hT.scan.row).mono ?_;rintro e w1 ⟨rfl,k1,rfl⟩;rw[hy];clear hy;have near_yes:Ycr s fin=true->Hid (R= .bad 44 fin):=fun h=>Zh (YoV HNr.out h);have near_no:Ycr s fin=false->Hid (R= .ok kind (s.extract at_ fin) fin):=fun h=>Zh (Yqc HNr.out h);rw[HE.out] at near_yes near_no;clear HE;by_cases hf:fin<s.size
 ·have g0:decide (fin<s.size)=true:=decide_eq_true hf;rw[g0] at near_yes near_no;by_cases t2:(cz==2)=true
  ·have HN:=near_yes (by simp only[t2]; rfl);clear near_yes near_no;go_wp2_with fail;go_quiet (fail)
   go_wp2_with fail;first
    |generalize hWd:(wr.drewN _).drewN _=W6
    |generalize hWd:wr.drewN _=W6
   have hT6:TokW B b s at_ fin sp v w W6 #[.int .i64 kind,.string tx,.int .i64 at_]:=by
    rw[<-hWd];first
     |exact(hT.drewN _).drewN _
     |exact hT.drewN _
   clear hWd;have hp6:=hT6.nm_cell;have hc6:=hT6.scan.row.c1;have tE:=Jb (hT6);obtain⟨t0,t1,t2,f0,f1,f2⟩:=tE;have hple:=(hT6).pl_cell;have HTK:=Zh (hT6);have hlt6:w.heap.size+1<W6.heap.size:=by have:=hT6.lt; omega
   go_region
   all_goals go_wp2
   all_goals
    refine bodyPost_ret (v:=.tuple #[.agg zTok,.iface 190 (.pointer (some ⟨W6.heap.size,0,none⟩))]) ?_ rfl ?_
    ·exact Ya rfl _ _ (w.heap.size+1) 136 zTok (0,0) _ _ rfl rfl (Yn HTK.out _ ⟨rfl,rfl,rfl,rfl⟩) Tryz.underlying136 rfl (Yb _ rfl)
    ·rw[HN.out];exact Ym HTK.out _ _ _ (rfl) ⟨rfl,rfl,rfl,rfl⟩
  ·have t2f:(
    (cz==2))=false:=by simpa using t2
   by_cases t3:(cz==3)=true
   ·have HN:=near_yes (by simp only[t3,t2f]; rfl);clear near_yes near_no;go_wp2_with fail;go_quiet (fail)
    go_wp2_with fail;first
     |generalize hWd:(wr.drewN _).drewN _=W6
     |generalize hWd:wr.drewN _=W6
    have hT6:TokW B b s at_ fin sp v w W6 #[.int .i64 kind,.string tx,.int .i64 at_]:=by
     rw[<-hWd];first
      |exact(hT.drewN _).drewN _
      |exact hT.drewN _
    clear hWd;have hp6:=hT6.nm_cell;have hc6:=hT6.scan.row.c1;have tE:=Jb (hT6);obtain⟨t0,t1,t2,f0,f1,f2⟩:=tE;have hple:=(hT6).pl_cell;have HTK:=Zh (hT6);have hlt6:w.heap.size+1<W6.heap.size:=by have:=hT6.lt; omega
    go_region
    all_goals go_wp2
    all_goals
     refine bodyPost_ret (v:=.tuple #[.agg zTok,.iface 190 (.pointer (some ⟨W6.heap.size,0,none⟩))]) ?_ rfl ?_
     ·exact Ya rfl _ _ (w.heap.size+1) 136 zTok (0,0) _ _ rfl rfl (Yn HTK.out _ ⟨rfl,rfl,rfl,rfl⟩) Tryz.underlying136 rfl (Yb _ rfl)
     ·rw[HN.out];exact Ym HTK.out _ _ _ (rfl) ⟨rfl,rfl,rfl,rfl⟩
   ·have t3f:((cz==3))=false:=by simpa using t3
    by_cases t45:((y:Int)==45)=true
    ·have HN:=near_yes (by simp only[t45,t2f,t3f]; rfl);clear near_yes near_no;go_wp2_with fail;go_quiet (fail)
     go_wp2_with fail;first
      |generalize hWd:(wr.drewN _).drewN _=W6
      |generalize hWd:wr.drewN _=W6
     have hT6:TokW B b s at_ fin sp v w W6 #[.int .i64 kind,.string tx,.int .i64 at_]:=by
      rw[<-hWd];first
       |exact(hT.drewN _).drewN _
       |exact hT.drewN _
     clear hWd;have hp6:=hT6.nm_cell;have hc6:=hT6.scan.row.c1;have tE:=Jb (hT6);obtain⟨t0,t1,t2,f0,f1,f2⟩:=tE;have hple:=(hT6).pl_cell;have HTK:=Zh (hT6);have hlt6:w.heap.size+1<W6.heap.size:=by have:=hT6.lt; omega
     go_region
     all_goals go_wp2
     all_goals
      refine bodyPost_ret (v:=.tuple #[.agg zTok,.iface 190 (.pointer (some ⟨W6.heap.size,0,none⟩))]) ?_ rfl ?_
      ·exact Ya rfl _ _ (w.heap.size+1) 136 zTok (0,0) _ _ rfl rfl (Yn HTK.out _ ⟨rfl,rfl,rfl,rfl⟩) Tryz.underlying136 rfl (Yb _ rfl)
      ·rw[HN.out];exact Ym HTK.out _ _ _ (rfl) ⟨rfl,rfl,rfl,rfl⟩
    ·have t45f:(((y:Int)==45))=false:=by simpa using t45
     by_cases t95:((y:Int)==95)=true
     ·have HN:=near_yes (by simp only[t95,t2f,t3f,t45f]; rfl);clear near_yes near_no;go_wp2_with fail;go_quiet (fail)
      go_wp2_with fail;first
       |generalize hWd:(wr.drewN _).drewN _=W6
       |generalize hWd:wr.drewN _=W6
      have hT6:TokW B b s at_ fin sp v w W6 #[.int .i64 kind,.string tx,.int .i64 at_]:=by
       rw[<-hWd];first
        |exact(hT.drewN _).drewN _
        |exact hT.drewN _
      clear hWd;have hp6:=hT6.nm_cell;have hc6:=hT6.scan.row.c1;have tE:=Jb (hT6);obtain⟨t0,t1,t2,f0,f1,f2⟩:=tE;have hple:=(hT6).pl_cell;have HTK:=Zh (hT6);have hlt6:w.heap.size+1<W6.heap.size:=by have:=hT6.lt; omega
      go_region
      all_goals go_wp2
      all_goals
       refine bodyPost_ret (v:=.tuple #[.agg zTok,.iface 190 (.pointer (some ⟨W6.heap.size,0,none⟩))]) ?_ rfl ?_
       ·exact Ya rfl _ _ (w.heap.size+1) 136 zTok (0,0) _ _ rfl rfl (Yn HTK.out _ ⟨rfl,rfl,rfl,rfl⟩) Tryz.underlying136 rfl (Yb _ rfl)
       ·rw[HN.out];exact Ym HTK.out _ _ _ (rfl) ⟨rfl,rfl,rfl,rfl⟩
     ·have t95f:(((y:Int)==95))=false:=by simpa using t95
      by_cases t46:((y:Int)==46)=true
      ·have HN:=near_yes (by simp only[t46,t2f,t3f,t45f,t95f]; rfl);clear near_yes near_no;go_wp2_with fail;go_quiet (fail)
       go_wp2_with fail;first
        |generalize hWd:(wr.drewN _).drewN _=W6
        |generalize hWd:wr.drewN _=W6
       have hT6:TokW B b s at_ fin sp v w W6 #[.int .i64 kind,.string tx,.int .i64 at_]:=by
        rw[<-hWd];first
         |exact(hT.drewN _).drewN _
         |exact hT.drewN _
       clear hWd;have hp6:=hT6.nm_cell;have hc6:=hT6.scan.row.c1;have tE:=Jb (hT6);obtain⟨t0,t1,t2,f0,f1,f2⟩:=tE;have hple:=(hT6).pl_cell;have HTK:=Zh (hT6);have hlt6:w.heap.size+1<W6.heap.size:=by have:=hT6.lt; omega
       go_region
       all_goals go_wp2
       all_goals
        refine bodyPost_ret (v:=.tuple #[.agg zTok,.iface 190 (.pointer (some ⟨W6.heap.size,0,none⟩))]) ?_ rfl ?_
        ·exact Ya rfl _ _ (w.heap.size+1) 136 zTok (0,0) _ _ rfl rfl (Yn HTK.out _ ⟨rfl,rfl,rfl,rfl⟩) Tryz.underlying136 rfl (Yb _ rfl)
        ·rw[HN.out];exact Ym HTK.out _ _ _ (rfl) ⟨rfl,rfl,rfl,rfl⟩
      ·have t46f:(((y:Int)==46))=false:=by simpa using t46
       have HN:=near_no (by simp only[t2f,t3f,t45f,t95f,t46f]; rfl);clear near_yes near_no;go_wp2_with fail;go_quiet (fail)
       go_wp2_with (first
        |(refine wpList_load_row rfl 136 (.tmp 7) rfl (w.heap.size+3) rfl 136 #[.int .i64 kind,.string tx,.int .i64 at_] (0,0) _ hT.tok Tryz.underlying136 rfl (Yb _ rfl) ?_)
        |(refine wpList_store_row rfl 136 (.tmp 2) (.tmp 235) rfl (w.heap.size+1) (Yd kind tx at_) rfl rfl 136 zTok hT.res (Yb _ rfl) rfl (YR _ _ _) ?_))
       refine bodyPost_ret (v:=.tuple #[.agg (Yd kind tx at_),.nilIface]) ?_ rfl ?_
       ·exact Ya rfl _ _ (w.heap.size+1) 136 (Yd kind tx at_) (0,0) _ _ rfl rfl (setRow_heap _ _ _ _ _ _ (by exact hT.res)) Tryz.underlying136 rfl (Yb _ rfl)
       ·rw[HN.out,<-HTX.out];exact(hT.drewN _).ret hvl hbs _ _
 ·have g0:decide (fin<s.size)=false:=decide_eq_false hf;rw[g0] at near_yes near_no;have HN:=near_no Zs;clear near_yes near_no;go_wp2_with fail;go_quiet (fail)
  go_wp2_with (first
   |(refine wpList_load_row rfl 136 (.tmp 7) rfl (w.heap.size+3) rfl 136 #[.int .i64 kind,.string tx,.int .i64 at_] (0,0) _ hT.tok Tryz.underlying136 rfl (Yb _ rfl) ?_)
   |(refine wpList_store_row rfl 136 (.tmp 2) (.tmp 235) rfl (w.heap.size+1) (Yd kind tx at_) rfl rfl 136 zTok hT.res (Yb _ rfl) rfl (YR _ _ _) ?_))
  refine bodyPost_ret (v:=.tuple #[.agg (Yd kind tx at_),.nilIface]) ?_ rfl ?_
  ·exact Ya rfl _ _ (w.heap.size+1) 136 (Yd kind tx at_) (0,0) _ _ rfl rfl (setRow_heap _ _ _ _ _ _ (by exact hT.res)) Tryz.underlying136 rfl (Yb _ rfl)
  ·rw[HN.out,<-HTX.out];exact(hT.drewN _).ret hvl hbs _ _
end Go.Proofs.YteamjdmhdfjopaaGreatDoor

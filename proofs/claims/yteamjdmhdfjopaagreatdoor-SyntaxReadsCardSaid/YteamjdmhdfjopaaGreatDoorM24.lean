/- A part of the proof; it holds the texts Tokd Toke (names and blanks shortened). -/
import Derived.Test.YteamjdmhdfjopaaGreatDoorM23
namespace Go.Proofs.YteamjdmhdfjopaaGreatDoor
open Go.RowKit
set_option maxRecDepth 100000
set_option maxHeartbeats 8000000
set_option linter.unusedVariables false
set_option linter.unusedSimpArgs false
theorem Ynp (B b:Nat)(s:ByteArray)(at_:Nat)(sp:List (Nat×Nat))(v:Value)(w:World)(R:TokR)(hs:s.size<=40000)(hbs:b<w.heap.size)(hvl:∀k,v.ownBlock=some k->k<w.heap.size):Ynj B b s at_ sp v w R Yao:=by
 intro kind fin wr tx HNr HTX hT hlw u0 u3 u4 u5 u6 u8 u9 u10 u11 u12 u13 u14 u15 u16 u17 u18 u19 u20 u21 u22 u23 u24 u25 u26 u27 u28 u29 u30 u31 u32 u33 u34 u35 u36 u37 u38 u39 u40 u41 u42 u43 u44 u45 u46 u47 u48 u49 u50 u51 u52 u53 u54 u55 u56 u57 u58 u59 u60 u61 u62 u63 u64 u65 u66 u67 u68 u69 u70 u71 u72 u73 u74 u75 u76 u77 u78 u79 u80 u81 u82 u83 u84 u85 u86 u87 u88 u89 u90 u91 u92 u93 u94 u95 u96 u97 u98 u99 u100 u101 u102 u103 u104 u105 u106 u107 u108 u109 u110 u111 u112 u113 u114 u115 u116 u117 u118 u119 u120 u121 u122 u123 u124 u125 u126 u127 u128 u129 u130 u131 u132 u133 u134 u135 u136 u137 u138 u139 u140 u141 u142 u143 u144 u145 u146 u147 u148 u149 u150 u151 u152 u153 u154 u155 u156 u157 u158 u159 u160 u161 u162 u163 u164 u165 u166 u167 u168 u169 u170 u171 u172 u173 u174 u175 u176 u177 u178 u179 u180 u181 u182 u183 u184 u185 u186 u187 u188 u189 u190 u191 u192 u193 u194 u195 u196 u197 u198 u199 u200 u201 u202 u203 u204 u205 u206 u207 u208 u209 u210 u211 u212 u213 u214 u215 u216 u217 u218 u219 u220 u221 u222 u223 u224 u225 u226 u227 u228 u229 u230 u231 u232 u233 u234 u235;have hp:=hT.nm_cell;have hc0:=hT.scan.row.c0;have hc1:=hT.scan.row.c1;have hfs:=hT.scan.le;obtain⟨y,hy⟩:∃y:Nat,bt s fin=y:=⟨(bt s fin).toNat,by have:=YB s fin; omega⟩;have hy1:y<256:=by have:=Jk s fin; omega
 have hy2:(y:Int)<256:=Zo;have hcy:=hT.scan.row.c2 y hy1;have HE:Hid (YeM s fin=(decide (fin<s.size)&&(cls y==2||cls y==3||(y:Int)==45||(y:Int)==95||(y:Int)==46))):=by
  unfold YeM; rw[hy]; rfl
 generalize cls y=cz at hcy HE;conv=>arg 2; whnf
 go_wp2_with fail;refine(Yho b s fin v wr Zo hT.scan.row).mono ?_;rintro e w1 ⟨rfl,k1,rfl⟩;rw[hy];clear hy;have near_yes:YeM s fin=true->Hid (R= .bad 44 fin):=fun h=>Zh (YmH HNr.out h);have near_no:YeM s fin=false->Hid (R= .ok kind (s.extract at_ fin) fin):=fun h=>Zh (YnE HNr.out h);rw[HE.out] at near_yes near_no;clear HE;by_cases hf:fin<s.size
 ·have g0:decide (fin<s.size)=true:=decide_eq_true hf;rw[g0] at near_yes near_no;by_cases t2:(cz==2)=true
  ·have HN:=near_yes (by simp only[t2]; rfl);clear near_yes near_no;go_wp2_with fail;go_quiet (fail)
   go_wp2_with fail;first
    |generalize hWd:(wr.drewN _).drewN _=W6
    |generalize hWd:wr.drewN _=W6
   have hT6:TokW B b s at_ fin sp v w W6 #[.int .i64 kind,.string tx,.int .i64 at_]:=by
    rw[<-hWd];first
     |exact(hT.drewN _).drewN _
     |exact hT.drewN _
   clear hWd;have hp6:=hT6.nm_cell;have hc6:=hT6.scan.row.c1;have tE:=Jn (hT6);obtain⟨t0,t1,t2,f0,f1,f2⟩:=tE;have hple:=(hT6).pl_cell;have HTK:=Zh (hT6);have hlt6:w.heap.size+1<W6.heap.size:=by have:=hT6.lt; omega
   go_region
   all_goals go_wp2
   all_goals
    refine bodyPost_ret (v:=.tuple #[.agg zTok,.iface 190 (.pointer (some ⟨W6.heap.size,0,none⟩))]) ?_ rfl ?_
    ·exact Ya rfl _ _ (w.heap.size+1) 136 zTok (0,0) _ _ rfl rfl (Yv HTK.out _ ⟨rfl,rfl,rfl,rfl⟩) Tryz.underlying136 rfl (Yc _ rfl)
    ·rw[HN.out];exact Yu HTK.out _ _ _ (rfl) ⟨rfl,rfl,rfl,rfl⟩
  ·have t2f:(
    (cz==2))=false:=by simpa using t2
   by_cases t3:(cz==3)=true
   ·have HN:=near_yes (by simp only[t3,t2f]; rfl);clear near_yes near_no;go_wp2_with fail;go_quiet (fail)
    go_wp2_with fail;first
     |generalize hWd:(wr.drewN _).drewN _=W6
     |generalize hWd:wr.drewN _=W6
    have hT6:TokW B b s at_ fin sp v w W6 #[.int .i64 kind,.string tx,.int .i64 at_]:=by
     rw[<-hWd];first
      |exact(hT.drewN _).drewN _
      |exact hT.drewN _
    clear hWd;have hp6:=hT6.nm_cell;have hc6:=hT6.scan.row.c1;have tE:=Jn (hT6);obtain⟨t0,t1,t2,f0,f1,f2⟩:=tE;have hple:=(hT6).pl_cell;have HTK:=Zh (hT6);have hlt6:w.heap.size+1<W6.heap.size:=by have:=hT6.lt; omega
    go_region
    all_goals go_wp2
    all_goals
     refine bodyPost_ret (v:=.tuple #[.agg zTok,.iface 190 (.pointer (some ⟨W6.heap.size,0,none⟩))]) ?_ rfl ?_
     ·exact Ya rfl _ _ (w.heap.size+1) 136 zTok (0,0) _ _ rfl rfl (Yv HTK.out _ ⟨rfl,rfl,rfl,rfl⟩) Tryz.underlying136 rfl (Yc _ rfl)
     ·rw[HN.out];exact Yu HTK.out _ _ _ (rfl) ⟨rfl,rfl,rfl,rfl⟩
   ·have t3f:((cz==3))=false:=by simpa using t3
    by_cases t45:((y:Int)==45)=true
    ·have HN:=near_yes (by simp only[t45,t2f,t3f]; rfl);clear near_yes near_no;go_wp2_with fail;go_quiet (fail)
     go_wp2_with fail;first
      |generalize hWd:(wr.drewN _).drewN _=W6
      |generalize hWd:wr.drewN _=W6
     have hT6:TokW B b s at_ fin sp v w W6 #[.int .i64 kind,.string tx,.int .i64 at_]:=by
      rw[<-hWd];first
       |exact(hT.drewN _).drewN _
       |exact hT.drewN _
     clear hWd;have hp6:=hT6.nm_cell;have hc6:=hT6.scan.row.c1;have tE:=Jn (hT6);obtain⟨t0,t1,t2,f0,f1,f2⟩:=tE;have hple:=(hT6).pl_cell;have HTK:=Zh (hT6);have hlt6:w.heap.size+1<W6.heap.size:=by have:=hT6.lt; omega
     go_region
     all_goals go_wp2
     all_goals
      refine bodyPost_ret (v:=.tuple #[.agg zTok,.iface 190 (.pointer (some ⟨W6.heap.size,0,none⟩))]) ?_ rfl ?_
      ·exact Ya rfl _ _ (w.heap.size+1) 136 zTok (0,0) _ _ rfl rfl (Yv HTK.out _ ⟨rfl,rfl,rfl,rfl⟩) Tryz.underlying136 rfl (Yc _ rfl)
      ·rw[HN.out];exact Yu HTK.out _ _ _ (rfl) ⟨rfl,rfl,rfl,rfl⟩
    ·have t45f:(((y:Int)==45))=false:=by simpa using t45
     by_cases t95:((y:Int)==95)=true
     ·have HN:=near_yes (by simp only[t95,t2f,t3f,t45f]; rfl);clear near_yes near_no;go_wp2_with fail;go_quiet (fail)
      go_wp2_with fail;first
       |generalize hWd:(wr.drewN _).drewN _=W6
       |generalize hWd:wr.drewN _=W6
      have hT6:TokW B b s at_ fin sp v w W6 #[.int .i64 kind,.string tx,.int .i64 at_]:=by
       rw[<-hWd];first
        |exact(hT.drewN _).drewN _
        |exact hT.drewN _
      clear hWd;have hp6:=hT6.nm_cell;have hc6:=hT6.scan.row.c1;have tE:=Jn (hT6);obtain⟨t0,t1,t2,f0,f1,f2⟩:=tE;have hple:=(hT6).pl_cell;have HTK:=Zh (hT6);have hlt6:w.heap.size+1<W6.heap.size:=by have:=hT6.lt; omega
      go_region
      all_goals go_wp2
      all_goals
       refine bodyPost_ret (v:=.tuple #[.agg zTok,.iface 190 (.pointer (some ⟨W6.heap.size,0,none⟩))]) ?_ rfl ?_
       ·exact Ya rfl _ _ (w.heap.size+1) 136 zTok (0,0) _ _ rfl rfl (Yv HTK.out _ ⟨rfl,rfl,rfl,rfl⟩) Tryz.underlying136 rfl (Yc _ rfl)
       ·rw[HN.out];exact Yu HTK.out _ _ _ (rfl) ⟨rfl,rfl,rfl,rfl⟩
     ·have t95f:(((y:Int)==95))=false:=by simpa using t95
      by_cases t46:((y:Int)==46)=true
      ·have HN:=near_yes (by simp only[t46,t2f,t3f,t45f,t95f]; rfl);clear near_yes near_no;go_wp2_with fail;go_quiet (fail)
       go_wp2_with fail;first
        |generalize hWd:(wr.drewN _).drewN _=W6
        |generalize hWd:wr.drewN _=W6
       have hT6:TokW B b s at_ fin sp v w W6 #[.int .i64 kind,.string tx,.int .i64 at_]:=by
        rw[<-hWd];first
         |exact(hT.drewN _).drewN _
         |exact hT.drewN _
       clear hWd;have hp6:=hT6.nm_cell;have hc6:=hT6.scan.row.c1;have tE:=Jn (hT6);obtain⟨t0,t1,t2,f0,f1,f2⟩:=tE;have hple:=(hT6).pl_cell;have HTK:=Zh (hT6);have hlt6:w.heap.size+1<W6.heap.size:=by have:=hT6.lt; omega
       go_region
       all_goals go_wp2
       all_goals
        refine bodyPost_ret (v:=.tuple #[.agg zTok,.iface 190 (.pointer (some ⟨W6.heap.size,0,none⟩))]) ?_ rfl ?_
        ·exact Ya rfl _ _ (w.heap.size+1) 136 zTok (0,0) _ _ rfl rfl (Yv HTK.out _ ⟨rfl,rfl,rfl,rfl⟩) Tryz.underlying136 rfl (Yc _ rfl)
        ·rw[HN.out];exact Yu HTK.out _ _ _ (rfl) ⟨rfl,rfl,rfl,rfl⟩
      ·have t46f:(((y:Int)==46))=false:=by simpa using t46
       have HN:=near_no (by simp only[t2f,t3f,t45f,t95f,t46f]; rfl);clear near_yes near_no;go_wp2_with fail;go_quiet (fail)
       go_wp2_with (first
        |(refine wpList_load_row rfl 136 (.tmp 7) rfl (w.heap.size+3) rfl 136 #[.int .i64 kind,.string tx,.int .i64 at_] (0,0) _ hT.tok Tryz.underlying136 rfl (Yc _ rfl) ?_)
        |(refine wpList_store_row rfl 136 (.tmp 2) (.tmp 235) rfl (w.heap.size+1) (Ye kind tx at_) rfl rfl 136 zTok hT.res (Yc _ rfl) rfl (Y4 _ _ _) ?_))
       refine bodyPost_ret (v:=.tuple #[.agg (Ye kind tx at_),.nilIface]) ?_ rfl ?_
       ·exact Ya rfl _ _ (w.heap.size+1) 136 (Ye kind tx at_) (0,0) _ _ rfl rfl (setRow_heap _ _ _ _ _ _ (by exact hT.res)) Tryz.underlying136 rfl (Yc _ rfl)
       ·rw[HN.out,<-HTX.out];exact(hT.drewN _).ret hvl hbs _ _
 ·have g0:decide (fin<s.size)=false:=decide_eq_false hf;rw[g0] at near_yes near_no;have HN:=near_no Zs;clear near_yes near_no;go_wp2_with fail;go_quiet (fail)
  go_wp2_with (first
   |(refine wpList_load_row rfl 136 (.tmp 7) rfl (w.heap.size+3) rfl 136 #[.int .i64 kind,.string tx,.int .i64 at_] (0,0) _ hT.tok Tryz.underlying136 rfl (Yc _ rfl) ?_)
   |(refine wpList_store_row rfl 136 (.tmp 2) (.tmp 235) rfl (w.heap.size+1) (Ye kind tx at_) rfl rfl 136 zTok hT.res (Yc _ rfl) rfl (Y4 _ _ _) ?_))
  refine bodyPost_ret (v:=.tuple #[.agg (Ye kind tx at_),.nilIface]) ?_ rfl ?_
  ·exact Ya rfl _ _ (w.heap.size+1) 136 (Ye kind tx at_) (0,0) _ _ rfl rfl (setRow_heap _ _ _ _ _ _ (by exact hT.res)) Tryz.underlying136 rfl (Yc _ rfl)
  ·rw[HN.out,<-HTX.out];exact(hT.drewN _).ret hvl hbs _ _
theorem Ykl (x:Nat)(h:x<256):(decide (0<=Lib.indexByte [115,116,101] (x:Int).toNat.toUInt8))=steB x:=by
 have:∀i:Fin 256,(decide (0<=Lib.indexByte [115,116,101] ((i.val:Int)).toNat.toUInt8))=steB i.val:=by decide+kernel
 exact this ⟨x,h⟩
theorem YlC (x:Nat)(h:x<256):(cls x=2->x≠39/\x≠34)/\(steB x=true->cls x=2)/\(x=45->cls x=0)/\(x=36->cls x=0):=by
 have:∀i:Fin 256,(cls i.val=2->i.val≠39/\i.val≠34)/\(steB i.val=true->cls i.val=2)/\(i.val=45->cls i.val=0)/\(i.val=36->cls i.val=0):=by decide+kernel
 exact this ⟨x,h⟩
theorem Yj9 (B b:Nat)(s:ByteArray)(at_:Nat)(sp:List (Nat×Nat))(v:Value)(w:World)(hs:s.size<=40000)(hw:Yp B b s at_ sp v w)(hlt:at_<s.size)
 (hB:B<=w.heap.size)(hbB:B<=b)(R:TokR)(hR:Hid (tokN s at_=R)):
 Calls Tryz.prog 166 #[.pointer (some ⟨b,0,none⟩)] w (Ye7 B b s at_ sp v w R):=by
 have hbs:=hw.row.lt;have hl:decide (at_<s.size)=true:=by simpa using hlt
 have hvl:∀k,v.ownBlock=some k->k<w.heap.size:=fun k e=>by
  obtain⟨c,hc⟩:=Yt hw.own e;obtain⟨h,_⟩:=Zg hc;exact h
 go_enter Tryz.func166,Tryz.ntmps166;go_wp2_with fail;generalize hW:World.alloc _ _=W;have hbel:Below w.heap.size w W:=hW▸(below_alloc1 w _).alloc Zs _;have hsz:W.heap.size=w.heap.size+2:=by subst hW; simp
 have hA:Yp B b s at_ sp v W:=⟨World.rowIs.of_block hw.row (hbel.block _ hbs),(Keep.of_below (S:=fun _=>False) hbel).owns hw.own (fun _ _ q=>q),hw.le,hw.few⟩;have hp:W.cell? ⟨w.heap.size,0,none⟩=some (.pointer (some ⟨b,0,none⟩)):=by
  subst hW;simp[World.cell?,heap_alloc2_old]
 have hc0:=hA.row.c0;have hc1:=hA.row.c1;have hT:=Yjd (W:=(W.alloc (.cells #[.int .i64 at_] 3)).alloc (.cells #[.int .i64 0,.string ⟨#[]⟩,.int .i64 0] 136)) hw (by subst hW; rfl);clear hW;have hlw:=hA.row.lt;have ha0:=(World.cell?_alloc_lt W (.cells #[.int .i64 0] 3) ⟨b,0,none⟩ hlw).trans hc0;have ha1:=(World.cell?_alloc_lt W (.cells #[.int .i64 0] 3) ⟨b,1,none⟩ hlw).trans hc1;have hap:=(World.cell?_alloc_lt W (.cells #[.int .i64 0] 3) ⟨w.heap.size,0,none⟩ (by show w.heap.size<_; omega)).trans hp;have haq:(W.alloc (.cells #[.int .i64 0] 3)).cell? ⟨W.heap.size,0,none⟩=some (.int .i64 0):=cell_new1 W _ _;have haf:(W.alloc (.cells #[.int .i64 0] 3)).frozen? ⟨W.heap.size,0,none⟩=false:=Yic W _ _;have hs0:=(World.cell?_alloc_lt W (.cells #[.int .i64 at_] 3) ⟨b,0,none⟩ hlw).trans hc0;have hs1:=(World.cell?_alloc_lt W (.cells #[.int .i64 at_] 3) ⟨b,1,none⟩ hlw).trans hc1;have hsp:=(World.cell?_alloc_lt W (.cells #[.int .i64 at_] 3) ⟨w.heap.size,0,none⟩ (by show w.heap.size<_; omega)).trans hp;have hx1:(s[at_]'hlt).toNat<256:=(s[at_]).toNat_lt;have hx2:((s[at_]'hlt).toNat:Int)<256:=Zo;have HB:Hid (((s[at_]'hlt).toNat:Int)=bt s at_):=Yq hlt;go_region
 rename_i K hKK
 refine hKK _ _ ?_;clear hKK;have hC:=Ynp B b s at_ sp v w R hs hbs hvl;have hB2:=HB.out;generalize(s[at_]'hlt).toNat=x at hx1 HB hB2⊢;obtain⟨f1,f2,f3,f4⟩:=YlC x hx1;have hst:=Ykl x hx1;have hI:=fun w=>Tryz.strings_IndexByte ⟨#[115,116,101]⟩ (x:Int) w;generalize hix:Lib.indexByte (⟨#[115,116,101]⟩:ByteArray).data.toList (x:Int).toNat.toUInt8=ix at hI;have hst:decide (0<=ix)=steB x:=by rw[<-hix]; exact hst
 rw[hB2] at hst;have hcv:cls x=cls (bt s at_).toNat:=by rw[<-hB2]; rfl
 by_cases q39:(x:Int)=39
 ·exact YjV B b s at_ sp v w _ R x _ ix Yao hC hs hlt hB hbB hx1 HB rfl hbs hvl hT hR hI q39 _ _ _ _ _ _ _ _ _ _ _ _ _
 by_cases q34:(x:Int)=34
 ·exact YjW B b s at_ sp v w _ R x _ ix Yao hC hs hlt hB hbB hx1 HB rfl hbs hvl hT hR hI q34 _ _ _ _ _ _ _ _ _ _ _ _ _
 have hnq:¬((x:Int)=39\/(x:Int)=34):=fun q=>q.elim q39 q34;by_cases c4:cls x=4
 ·exact Yl5 B b s at_ sp v w _ R x _ ix Yao hC hs hlt hB hbB hx1 HB rfl hbs hvl hT hR hI hnq c4 _ _ _ _ _ _ _ _ _ _ _ _ _
 by_cases hv:steB (bt s at_)=true/\bt s (at_+1)=46
 ·exact Yno B b s at_ sp v w _ R x _ ix Yao hC hs hlt hB hbB hx1 HB rfl hbs hvl hT hR hI hnq (f2 (by rw[hB2]; exact hv.1)) hv (by simpa using hst.trans hv.1) _ _ _ _ _ _ _ _ _ _ _ _ _
 by_cases c2:cls x=2
 ·by_cases hi:0<=ix
  ·have hd:(bt s (at_+1)==46)=false:=by
    have h1:steB (bt s at_)=true:=by rw[<-hst]; simpa using hi
    simpa using fun q=>hv ⟨h1,q⟩
   exact YjZ B b s at_ sp v w _ R x _ ix Yao hC hs hlt hB hbB hx1 HB rfl hbs hvl hT hR hI hnq c2 hv hi hd _ _ _ _ _ _ _ _ _ _ _ _ _
  ·exact Yj0 B b s at_ sp v w _ R x _ ix Yao hC hs hlt hB hbB hx1 HB rfl hbs hvl hT hR hI hnq c2 hv Zo _ _ _ _ _ _ _ _ _ _ _ _ _
 have hi:ix<0:=by
  refine Int.not_le.1 fun q=>c2 (f2 ?_);rw[hB2,<-hst]; simpa using q
 by_cases c3:cls x=3
 ·exact Yl7 B b s at_ sp v w _ R x _ ix Yao hC hs hlt hB hbB hx1 HB rfl hbs hvl hT hR hI hnq hv hi c3 _ _ _ _ _ _ _ _ _ _ _ _ _
 by_cases q45:(x:Int)=45
 ·have h45:((x:Int)==45)=true:=by simpa using q45
  by_cases hny:cls (bt s (at_+1)).toNat=3
  ·exact Yl6 B b s at_ sp v w _ R x _ ix Yao hC hs hlt hB hbB hx1 HB rfl hbs hvl hT hR hI hnq hv hi (f3 Zo) h45 hny _ _ _ _ _ _ _ _ _ _ _ _ _
  ·exact YjX B b s at_ sp v w _ R x _ ix Yao hC hs hlt hB hbB hx1 HB rfl hbs hvl hT hR hI hnq hv hi (f3 Zo) h45 hny _ _ _ _ _ _ _ _ _ _ _ _ _
 have n45:((x:Int)==45)=false:=by simpa using q45
 by_cases q36:(x:Int)=36
 ·have h36:((x:Int)==36)=true:=by simpa using q36
  by_cases hny:cls (bt s (at_+1)).toNat=2
  ·exact YjU B b s at_ sp v w _ R x _ ix Yao hC hs hlt hB hbB hx1 HB rfl hbs hvl hT hR hI hnq hv hi (f4 Zo) h36 n45 hny _ _ _ _ _ _ _ _ _ _ _ _ _
  ·exact YjT B b s at_ sp v w _ R x _ ix Yao hC hs hlt hB hbB hx1 HB rfl hbs hvl hT hR hI hnq hv hi (f4 Zo) h36 n45 hny _ _ _ _ _ _ _ _ _ _ _ _ _
 exact YjY B b s at_ sp v w _ R x _ ix Yao hC hs hlt hB hbB hx1 HB rfl hbs hvl hT hR hI hnq (by simpa using c4) (by simpa using c2) (by simpa using c3) (by simpa using q36) hi hv
  (by rw[<-hcv]; rintro(q | q); exact c3 q; exact q45 (hB2.trans q.1)) n45 _ _ _ _ _ _ _ _ _ _ _ _ _
end Go.Proofs.YteamjdmhdfjopaaGreatDoor

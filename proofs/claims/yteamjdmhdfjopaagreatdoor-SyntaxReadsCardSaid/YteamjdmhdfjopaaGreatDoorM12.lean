/- A part of the proof; it holds the texts Qd Wrb Wrc Wrd Wre Wrh (names and blanks shortened). -/
import Derived.Test.YteamjdmhdfjopaaGreatDoorM2
import Derived.Test.YteamjdmhdfjopaaGreatDoorM9
import Derived.Test.YteamjdmhdfjopaaGreatDoorM10
import Derived.Lib.UnsafeStr
import Derived.Lib.BufferRead
import Derived.Test.YteamjdmhdfjopaaGreatDoorM5
import Derived.Test.YteamjdmhdfjopaaGreatDoorM11
namespace Go.Proofs.YteamjdmhdfjopaaGreatDoor
open Go.RowKit
set_option maxRecDepth 100000
set_option maxHeartbeats 8000000
set_option linter.unusedVariables false
set_option linter.unusedSimpArgs false
theorem YnO:(Tryz.prog.info? 5).map (fun i=>(i.zero,i.size,i.bytes))=some (some (.int .u8 0),1,1):=by kernel_rfl
section
variable {w wr w1 w2:World}{mk:Int}{vis:List Nat}{i:Nat}{p:Int×Int}
end
section
variable {w wr w1:World}{o:Nat}{bk:List (Int×Int)}{s:ByteArray}{out:List UInt8}{vv:Value}
end
theorem and15:∀i:Fin 256,bits BinOp.and IntKind.u8 (i.val:Int) 15=(i.val:Int)%16:=by decide+kernel
def hexB:ByteArray:=⟨#[48,49,50,51,52,53,54,55,56,57,97,98,99,100,101,102]⟩
theorem YnS:∀n:Fin 16,hexB[n.val]'(Nat.lt_of_lt_of_le n.isLt Zd)=hexd n.val:=by decide+kernel
theorem Ylu (x:Int)(n:Nat)(hx:x=n)(hn:n<16)(h:x.toNat<hexB.size):hexB[x.toNat]'h=hexd n:=by
 subst hx;exact YnS ⟨n,hn⟩
def escT (q b:UInt8):List UInt8:=
 if b=92\/b=q then [92,b] else if b=10 then [92,110] else if b=9 then [92,116] else if b.toNat<32\/126<b.toNat then [92,120,hexd (b.toNat / 16),hexd (b.toNat%16)] else [b]
theorem Ygy {a b:UInt8}:((a.toNat:Int)==(b.toNat:Int))=decide (a=b):=by
 rw[Bool.eq_iff_iff,beq_iff_eq,decide_eq_true_iff];exact⟨fun h=>UInt8.toNat_inj.1 Zo,fun h=>by rw[h]⟩
theorem Ybq {a:UInt8}(n:UInt8)(m:Int)(h:(n.toNat:Int)=m):((a.toNat:Int)==m)=decide (a=n):=by rw[<-h]; exact Ygy
theorem YjG (B b:Nat)(bs:List Value)(c q:UInt8)(w:World)(h:IsB B b bs w)(hlen:bs.length+4<=140737488355328)(hBw:B<=w.heap.size):
 Calls Tryz.prog 252 #[.pointer (some ⟨b,0,none⟩),.int .u8 c.toNat,.int .u8 q.toNat] w fun e w'=>e= .returned (.tuple #[])/\IsB B b (bs++Lib.byteCells (escT q c)) w'/\Y3 B b w w':=by
 have HI:=Zh h;clear h;by_cases h1:c=92\/c=q
 ·have HE:Hid (escT q c=[92,c]):=Zh (by unfold escT; rw[if_pos h1]);have go:∀x y:Bool,((c.toNat:Int)==92)=x->((c.toNat:Int)==(q.toNat:Int))=y->(x||y)=true->Calls Tryz.prog 252 #[.pointer (some ⟨b,0,none⟩),.int .u8 c.toNat,.int .u8 q.toNat] w fun e w'=>e= .returned (.tuple #[])/\IsB B b (bs++Lib.byteCells (escT q c)) w'/\Y3 B b w w':=by
   intro x y hx hy hxy;clear h1;go_enter Tryz.func252,Tryz.ntmps252;cases x with
   |
    true=>
    go_wp2_with fail;refine(Jl B b _ 92 w HI.out Zo hBw).mono ?_;rintro e w1 ⟨rfl,hU1,hb1⟩;have HU1:=Zh hU1;have HB1:=Zh hb1;clear hU1 hb1;go_wp2_with fail;refine(Jl B b _ c.toNat w1 (.inr HU1.out) (by simp; omega) (Nat.le_trans hBw HB1.out.size)).mono ?_;rintro e w2 ⟨rfl,hU2,hb2⟩;have HU2:=Zh hU2;have HB2:=Zh (HB1.out.trans hb2);clear hU2 hb2;go_wp2;go_end0
    exact⟨rfl,.inr (by rw[HE.out]; have:=HU2.out; simpa[Lib.byteCells] using this),HB2.out⟩
   |
    false=>
    cases y with
    |false=>cases hxy
    |
     true=>
     go_wp2_with fail;refine(Jl B b _ 92 w HI.out Zo hBw).mono ?_;rintro e w1 ⟨rfl,hU1,hb1⟩;have HU1:=Zh hU1;have HB1:=Zh hb1;clear hU1 hb1;go_wp2_with fail;refine(Jl B b _ c.toNat w1 (.inr HU1.out) (by simp; omega) (Nat.le_trans hBw HB1.out.size)).mono ?_;rintro e w2 ⟨rfl,hU2,hb2⟩;have HU2:=Zh hU2;have HB2:=Zh (HB1.out.trans hb2);clear hU2 hb2;go_wp2;go_end0
     exact⟨rfl,.inr (by rw[HE.out]; have:=HU2.out; simpa[Lib.byteCells] using this),HB2.out⟩
  exact go _ _ rfl rfl (by rw[Ybq 92 92 rfl,Ygy]; simpa using h1)
 ·have b1:((c.toNat:Int)==92)=false:=by rw[Ybq 92 92 rfl]; exact decide_eq_false fun k=>h1 (.inl k)
  have b2:((c.toNat:Int)==(q.toNat:Int))=false:=by rw[Ygy]; exact decide_eq_false fun k=>h1 (.inr k)
  by_cases h2:c=10
  ·have HE:Hid (escT q c=[92,110]):=Zh (by unfold escT; rw[if_neg h1,if_pos h2]);have b3:((c.toNat:Int)==10)=true:=by rw[Ybq 10 10 rfl]; exact decide_eq_true h2
   clear h1 h2;go_enter Tryz.func252,Tryz.ntmps252;go_wp2_with fail;refine(Yak B b _ _ w HI.out (by show _+2<=_; omega) hBw).mono ?_;rintro e w1 ⟨rfl,hU1,hb1⟩;have HU1:=Zh hU1;have HB1:=Zh hb1;clear hU1 hb1;go_wp2;go_end0
   exact⟨rfl,.inr (by rw[HE.out]; exact HU1.out),HB1.out⟩
  ·have b3:((c.toNat:Int)==10)=false:=by rw[Ybq 10 10 rfl]; exact decide_eq_false h2
   by_cases h3:c=9
   ·have HE:Hid (escT q c=[92,116]):=Zh (by unfold escT; rw[if_neg h1,if_neg h2,if_pos h3]);have b4:((c.toNat:Int)==9)=true:=by rw[Ybq 9 9 rfl]; exact decide_eq_true h3
    clear h1 h2 h3;go_enter Tryz.func252,Tryz.ntmps252;go_wp2_with fail;refine(Yak B b _ _ w HI.out (by show _+2<=_; omega) hBw).mono ?_;rintro e w1 ⟨rfl,hU1,hb1⟩;have HU1:=Zh hU1;have HB1:=Zh hb1;clear hU1 hb1;go_wp2;go_end0
    exact⟨rfl,.inr (by rw[HE.out]; exact HU1.out),HB1.out⟩
   ·have b4:((c.toNat:Int)==9)=false:=by rw[Ybq 9 9 rfl]; exact decide_eq_false h3
    by_cases h4:c.toNat<32\/126<c.toNat
    ·have HE:Hid (escT q c=[92,120,hexd (c.toNat / 16),hexd (c.toNat%16)]):=Zh (by unfold escT; rw[if_neg h1,if_neg h2,if_neg h3,if_pos h4]);have hblt:=c.toNat_lt;have hi1:0<=(c.toNat:Int) / 16/\(c.toNat:Int) / 16<16:=Zo;have hi2:0<=(c.toNat:Int)%16/\(c.toNat:Int)%16<16:=Zo;have hv1:∀h,(⟨#[48,49,50,51,52,53,54,55,56,57,97,98,99,100,101,102]⟩:ByteArray)[((c.toNat:Int) / 16).toNat]'h=hexd (c.toNat / 16):=fun h=>Ylu _ _ Zo Zo h;have hv2:∀h,(⟨#[48,49,50,51,52,53,54,55,56,57,97,98,99,100,101,102]⟩:ByteArray)[((c.toNat:Int)%16).toNat]'h=hexd (c.toNat%16):=fun h=>Ylu _ _ Zo Zo h;have hv3:bits BinOp.and IntKind.u8 (c.toNat:Int) 15=(c.toNat:Int)%16:=and15 ⟨c.toNat,hblt⟩;have hr2:((c.toNat:Int)<32)\/(¬(c.toNat:Int)<32/\(126:Int)<c.toNat):=Zo;clear hblt h1 h2 h3 h4;rcases hr2 with hr2 | ⟨hr2,hr3⟩
     ·have d1:decide ((c.toNat:Int)<32)=true:=decide_eq_true hr2;clear hr2;go_enter Tryz.func252,Tryz.ntmps252;go_wp2_with fail;refine(Yak B b _ _ w HI.out (by show _+2<=_; omega) hBw).mono ?_;rintro e w1 ⟨rfl,hU1,hb1⟩;have HU1:=Zh hU1;have HB1:=Zh hb1;clear hU1 hb1;go_wp2_with fail;refine(Jl B b _ (hexd (c.toNat / 16)).toNat w1 (.inr HU1.out) (by simp[Lib.strCells]; omega) (Nat.le_trans hBw HB1.out.size)).mono ?_;rintro e w2 ⟨rfl,hU2,hb2⟩;have HU2:=Zh hU2;have HB2:=Zh (HB1.out.trans hb2);clear hU2 hb2;go_wp2_with fail;refine(Jl B b _ (hexd (c.toNat%16)).toNat w2 (.inr HU2.out) (by simp[Lib.strCells]; omega) (Nat.le_trans hBw HB2.out.size)).mono ?_;rintro e w3 ⟨rfl,hU3,hb3⟩;have HU3:=Zh hU3;have HB3:=Zh (HB2.out.trans hb3);clear hU3 hb3;go_wp2;go_end0
      exact⟨rfl,.inr (by rw[HE.out]; have:=HU3.out; simpa[Lib.byteCells,Lib.strCells] using this),HB3.out⟩
     ·have d1:decide ((c.toNat:Int)<32)=false:=decide_eq_false hr2;have d2:decide ((126:Int)<c.toNat)=true:=decide_eq_true hr3;clear hr2 hr3;go_enter Tryz.func252,Tryz.ntmps252;go_wp2_with fail;refine(Yak B b _ _ w HI.out (by show _+2<=_; omega) hBw).mono ?_;rintro e w1 ⟨rfl,hU1,hb1⟩;have HU1:=Zh hU1;have HB1:=Zh hb1;clear hU1 hb1;go_wp2_with fail;refine(Jl B b _ (hexd (c.toNat / 16)).toNat w1 (.inr HU1.out) (by simp[Lib.strCells]; omega) (Nat.le_trans hBw HB1.out.size)).mono ?_;rintro e w2 ⟨rfl,hU2,hb2⟩;have HU2:=Zh hU2;have HB2:=Zh (HB1.out.trans hb2);clear hU2 hb2;go_wp2_with fail;refine(Jl B b _ (hexd (c.toNat%16)).toNat w2 (.inr HU2.out) (by simp[Lib.strCells]; omega) (Nat.le_trans hBw HB2.out.size)).mono ?_;rintro e w3 ⟨rfl,hU3,hb3⟩;have HU3:=Zh hU3;have HB3:=Zh (HB2.out.trans hb3);clear hU3 hb3;go_wp2;go_end0
      exact⟨rfl,.inr (by rw[HE.out]; have:=HU3.out; simpa[Lib.byteCells,Lib.strCells] using this),HB3.out⟩
    ·have HE:Hid (escT q c=[c]):=Zh (by unfold escT; rw[if_neg h1,if_neg h2,if_neg h3,if_neg h4]);have d1:decide ((c.toNat:Int)<32)=false:=Zf;have d2:decide ((126:Int)<c.toNat)=false:=Zf;clear h1 h2 h3 h4;go_enter Tryz.func252,Tryz.ntmps252;go_wp2_with fail;refine(Jl B b _ c.toNat w HI.out Zo hBw).mono ?_;rintro e w1 ⟨rfl,hU1,hb1⟩;have HU1:=Zh hU1;have HB1:=Zh hb1;clear hU1 hb1;go_wp2;go_end0
     exact⟨rfl,.inr (by rw[HE.out]; exact HU1.out),HB1.out⟩
def YeN (k:Int)(t:ByteArray):ByteArray:=if k=5 then ⟨#[115,46]⟩++t else if k=6 then ⟨#[116,46]⟩++t else if k=7 then ⟨#[101,46]⟩++t else ⟨#[]⟩
theorem YjB (k:Int)(t:ByteArray)(ao:Option Addr)(n cap:Nat)(w:World):
 Calls Tryz.prog 263 #[.agg #[.int .i64 k,.string t,.slice ao n cap]] w fun e w'=>e= .returned (.bool (decide (5<=k)&&decide (k<=7)))/\Below w.heap.size w w':=by
 by_cases h1:5<=k
 ·have d1:decide (5<=k)=true:=decide_eq_true h1;by_cases h2:k<=7
  ·have d2:decide (k<=7)=true:=decide_eq_true h2;rw[d1,d2];clear h1 h2;go_enter Tryz.func263,Tryz.ntmps263;go_wp2;go_ret;exact⟨rfl,below_alloc1 w _⟩
  ·have d2:decide (k<=7)=false:=decide_eq_false h2;rw[d1,d2];clear h1 h2;go_enter Tryz.func263,Tryz.ntmps263;go_wp2;go_ret;exact⟨rfl,below_alloc1 w _⟩
 ·have d1:decide (5<=k)=false:=decide_eq_false h1;rw[d1];clear h1;go_enter Tryz.func263,Tryz.ntmps263;go_wp2;go_ret;exact⟨rfl,below_alloc1 w _⟩
theorem Yk9 (k:Int)(t:ByteArray)(ao:Option Addr)(n cap:Nat)(w:World)(ht:t.size<=1000000):
 Calls Tryz.prog 253 #[.agg #[.int .i64 k,.string t,.slice ao n cap]] w fun e w'=>e= .returned (.string (YeN k t))/\Below w.heap.size w w':=by
 have hV:=fun w=>YjB k t ao n cap w;by_cases hk:k=5
 ·subst hk;go_enter Tryz.func253,Tryz.ntmps253;go_wp2_with fail;refine(hV _).mono ?_;rintro e w1 ⟨rfl,hb1⟩;have hT:=(hb1.block w.heap.size Zs).trans (heap_alloc_new w _);have t0:w1.cell? ⟨w.heap.size,0,none⟩=some (.int .i64 5):=by simp[World.cell?,hT]
  have t1:w1.cell? ⟨w.heap.size,1,none⟩=some (.string t):=by simp[World.cell?,hT]
  have HB:Hid (Below w.heap.size w w1):=Zh ((below_alloc1 w _).trans (hb1.mono Zs));have hv1:Utf8.encode (((⟨#[115,116,101]⟩:ByteArray)[0]'Zd).toNat:Int)=⟨#[115]⟩:=by decide+kernel
  clear hT hb1 hV;go_wp2;go_region
  go_wp2;go_ret;exact⟨rfl,below_drewN HB.out 1⟩
 ·by_cases hk6:k=6
  ·have hk:=hk6;clear hk6;subst hk;go_enter Tryz.func253,Tryz.ntmps253;go_wp2_with fail;refine(hV _).mono ?_;rintro e w1 ⟨rfl,hb1⟩;have hT:=(hb1.block w.heap.size Zs).trans (heap_alloc_new w _);have t0:w1.cell? ⟨w.heap.size,0,none⟩=some (.int .i64 6):=by simp[World.cell?,hT]
   have t1:w1.cell? ⟨w.heap.size,1,none⟩=some (.string t):=by simp[World.cell?,hT]
   have HB:Hid (Below w.heap.size w w1):=Zh ((below_alloc1 w _).trans (hb1.mono Zs));have hv1:Utf8.encode (((⟨#[115,116,101]⟩:ByteArray)[1]'Zd).toNat:Int)=⟨#[116]⟩:=by decide+kernel
   clear hT hb1 hV;go_wp2;go_region
   go_wp2;go_ret;exact⟨rfl,below_drewN HB.out 1⟩
  ·by_cases hk7:k=7
   ·have hk:=hk7;clear hk7;subst hk;go_enter Tryz.func253,Tryz.ntmps253;go_wp2_with fail;refine(hV _).mono ?_;rintro e w1 ⟨rfl,hb1⟩;have hT:=(hb1.block w.heap.size Zs).trans (heap_alloc_new w _);have t0:w1.cell? ⟨w.heap.size,0,none⟩=some (.int .i64 7):=by simp[World.cell?,hT]
    have t1:w1.cell? ⟨w.heap.size,1,none⟩=some (.string t):=by simp[World.cell?,hT]
    have HB:Hid (Below w.heap.size w w1):=Zh ((below_alloc1 w _).trans (hb1.mono Zs));have hv1:Utf8.encode (((⟨#[115,116,101]⟩:ByteArray)[2]'Zd).toNat:Int)=⟨#[101]⟩:=by decide+kernel
    clear hT hb1 hV;go_wp2;go_region
    go_wp2;go_ret;exact⟨rfl,below_drewN HB.out 1⟩
   ·have hz:(decide (5<=k)&&decide (k<=7))=false:=by
     rw[Bool.and_eq_false_iff,decide_eq_false_iff_not,decide_eq_false_iff_not]; omega
    have HN:Hid (YeN k t=⟨#[]⟩):=Zh (by unfold YeN; rw[if_neg hk,if_neg hk6,if_neg hk7]);rw[hz] at hV;clear hk hk6 hk7 hz;go_enter Tryz.func253,Tryz.ntmps253;go_wp2_with fail;refine(hV _).mono ?_;rintro e w1 ⟨rfl,hb1⟩;go_wp2;go_ret;exact⟨by rw[HN.out]; rfl,(below_alloc1 w _).trans (hb1.mono Zs)⟩
def Ts.headK:Ts->Option Int
 |.nil=>none
 |.cons k _ _ _=>some k
def JK (p:Option Int):Bool:=p != some 1
def Yac (prev nextK:Option Int)(k:Int)(t:ByteArray)(kidsNo:Bool)(kw:List UInt8):List UInt8:=
 (if prev.isSome=true/\(k≠1\/JK prev=true) then [32] else [])++
 (
  if k=1 then (if JK prev then [39] else [])++escT 39 (bu t 0)++(if JK nextK then [39] else [])
  else if k=2 then (if YC 60 t=true then t.data.toList else 34::(t.data.toList.flatMap (escT 34)++[34]))
  else if k=3 then t.data.toList
  else if k=4 then 40::(kw++[41])
  else if k=8 then 60::(t.data.toList++((if kidsNo then [] else [32])++(kw++[62])))
  else (YeN k t).data.toList)
def Ts.wr:Option Int->Ts->List UInt8
 |_,.nil=>[]
 |prev,.cons k t kids rest=>Yac prev rest.headK k t (kids.len==0) (kids.wr none)++rest.wr (some k)
def Ydn (l:Ts):ByteArray:=⟨(l.wr none).toArray⟩
theorem Ycw (q b:UInt8):(escT q b).length<=4:=by
 unfold escT;repeat' split
 all_goals simp
theorem Ycc (q:UInt8):∀l:List UInt8,(l.flatMap (escT q)).length<=4*l.length
 |[]=>by simp
 |
  b::l=>by
  have h1:=Ycc q l;have h2:=Ycw q b;simp only[List.flatMap_cons,List.length_append,List.length_cons];omega
theorem Yhq (k:Int)(t:ByteArray):(YeN k t).size<=t.size+2:=by
 have h:∀a b:UInt8,((⟨#[a,b]⟩:ByteArray)++t).size<=t.size+2:=fun a b=>by
  rw[ByteArray.size_append];show 2+_<=_;omega
 unfold YeN;split
 ·exact h _ _
 ·split
  ·exact h _ _
  ·split
   ·exact h _ _
   ·show 0<=_;omega
def Jw (e:List UInt8):List UInt8->Bool->List (List UInt8)->List (List UInt8)
 |last,_,[]=>[last++e]
 |last,true,x::r=>Jw e (last++x) false r
 |last,false,x::r=>last::Jw e x false r
def Yj1 (e:List UInt8)(next:Option Int)(ws:List (List UInt8)):List (List UInt8):=
 if next=some 1 then (match ws with | x::r=>(39::(e++x.drop 1))::r | []=>[]) else (39::(e++[39]))::ws
def Ts.words:Ts->List (List UInt8)
 |.nil=>[]
 |
  .cons k t kids rest=>
  if k=4 then Jw [41] [40] true kids.words++rest.words
  else if k=8 then Jw [62] (60::t.data.toList) false kids.words++rest.words
  else if k=1 then Yj1 (escT 39 (bu t 0)) rest.headK rest.words
  else Yac none none k t true []::rest.words
def J9:Md:=⟨[],[⟨⟨#[70]⟩,false,.cons (.cons 5 ⟨#[49]⟩ .nil (.cons 7 ⟨#[50]⟩ .nil .nil)) [] (.cons 8 ⟨#[70]⟩ (.cons 7 ⟨#[50]⟩ .nil .nil) (.cons 1 ⟨#[97]⟩ .nil .nil)) .nil .nil (.cons .nil [] .nil .nil .nil .nil)⟩]⟩
def bA (l:List UInt8):ByteArray:=⟨l.toArray⟩
theorem YlN (a b:List UInt8):bA (a++b)=bA a++bA b:=ByteArray.ext (by simp[bA,ByteArray.data_append])
theorem Ye6 (a:List UInt8):(bA a).size=a.length:=by simp[bA,ByteArray.size]
theorem Yn7 (s:ByteArray):bA s.data.toList=s:=ByteArray.ext (by simp[bA])
theorem Yn8 (a:UInt8)(b:List UInt8):bA (a::b)=⟨#[a]⟩++bA b:=YlN [a] b
structure ArS where
 out:List ByteArray
 last:ByteArray
 joined:Bool
def ArS.step (s:ArS)(x:ByteArray):ArS:=if s.joined=true then ⟨s.out,s.last++x,false⟩ else ⟨s.out++[s.last],x,false⟩
def YU (o:ByteArray)(d:Bool)(q:List ByteArray):ArS:=q.foldl ArS.step ⟨[],o,d⟩
theorem YlU (o:ByteArray)(d:Bool):YU o d []=⟨[],o,d⟩:=rfl
theorem Yf0 (o:ByteArray)(d:Bool)(q:List ByteArray)(x:ByteArray):YU o d (q++[x])=(YU o d q).step x:=by
 simp[YU,List.foldl_append]
def Yad (e o:ByteArray)(d:Bool)(ws:List ByteArray):List ByteArray:=(YU o d ws).out++[(YU o d ws).last++e]
theorem YiW:∀(ws:List ByteArray) (s:ArS),∃z,(ws.foldl ArS.step s).out=s.out++z
 |[],s=>⟨[],by simp⟩
 |
  x::ws,s=>by
  obtain⟨z,hz⟩:=YiW ws (s.step x);by_cases h:s.joined=true
  ·exact⟨z,by rw[List.foldl_cons,hz]; unfold ArS.step; rw[if_pos h]⟩
  ·exact⟨s.last::z,by rw[List.foldl_cons,hz]; unfold ArS.step; rw[if_neg h]; simp⟩
theorem YlT (e o:ByteArray)(d:Bool)(q r:List ByteArray):∃z,Yad e o d (q++r)=(YU o d q).out++z:=by
 obtain⟨z,hz⟩:=YiW r (YU o d q);refine⟨z++[(YU o d (q++r)).last++e],?_⟩;unfold Yad;rw[show(YU o d (q++r)).out=(YU o d q).out++z by unfold YU at hz⊢; rw[List.foldl_append]; exact hz];simp
theorem Yi5 {o:ByteArray}{d:Bool}{q:List ByteArray}{x:ByteArray}(h:(YU o d q).joined=false):(YU o d (q++[x])).out=(YU o d q).out++[(YU o d q).last]/\(YU o d (q++[x])).last=x/\(YU o d (q++[x])).joined=false:=by
 rw[Yf0]; unfold ArS.step; rw[if_neg (by rw[h]; simp)]; exact⟨rfl,rfl,rfl⟩
theorem YjL {o:ByteArray}{d:Bool}{q:List ByteArray}{x:ByteArray}(h:(YU o d q).joined=true):(YU o d (q++[x])).out=(YU o d q).out/\(YU o d (q++[x])).last=(YU o d q).last++x/\(YU o d (q++[x])).joined=false:=by
 rw[Yf0]; unfold ArS.step; rw[if_pos h]; exact⟨rfl,rfl,rfl⟩
theorem YcX:∀(e:List UInt8) (ws:List (List UInt8)) (o:List UInt8) (d:Bool) (z:List ByteArray),
 z++(Jw e o d ws).map bA=((ws.map bA).foldl ArS.step ⟨z,bA o,d⟩).out++[((ws.map bA).foldl ArS.step ⟨z,bA o,d⟩).last++bA e]
 |e,[],o,d,z=>by cases d<;>simp[Jw,YlN]
 |
  e,x::r,o,true,z=>by
  rw[Jw,YcX e r (o++x) false z];simp only[List.map_cons,List.foldl_cons,ArS.step,if_pos,YlN]
 |
  e,x::r,o,false,z=>by
  have:=YcX e r x false (z++[bA o]);rw[Jw,List.map_cons,show z++bA o::(Jw e x false r).map bA=(z++[bA o])++(Jw e x false r).map bA by simp,this];simp[List.foldl_cons,ArS.step]
theorem YfX (e o:List UInt8)(d:Bool)(ws:List (List UInt8)):(Jw e o d ws).map bA=Yad (bA e) (bA o) d (ws.map bA):=by
 have:=YcX e ws o d [];rw[List.nil_append] at this;exact this
theorem fold_size {K:Nat}:∀(q:List ByteArray) (s:ArS),(∀x∈q,x.size<=K)->s.last.size<=2*K->(s.joined=true->s.last.size<=K)->(q.foldl ArS.step s).last.size<=2*K/\((q.foldl ArS.step s).joined=true->(q.foldl ArS.step s).last.size<=K)
 |[],s,_,h1,h2=>⟨h1,h2⟩
 |
  x::q,s,h,h1,h2=>by
  have hx:=h x Zs;rw[List.foldl_cons];refine fold_size q (s.step x) (fun y hy=>h y (by simp[hy])) ?_ ?_
  ·unfold ArS.step;split
   ·rename_i hj
    have:=h2 hj;show(s.last++x).size<=_;rw[ByteArray.size_append]; omega
   ·show x.size<=_;omega
  ·unfold ArS.step;split
   ·exact fun e=>by cases e
   ·exact fun e=>by cases e
theorem Yf1 {K:Nat}{o:ByteArray}{d:Bool}(ho:o.size<=K)(q:List ByteArray)(h:∀x∈q,x.size<=K):(YU o d q).last.size<=2*K/\((YU o d q).joined=true->(YU o d q).last.size<=K):=
 fold_size q _ h (by show o.size<=_; omega) (fun _=>ho)
def Ts.wordsB (l:Ts):List ByteArray:=l.words.map bA
def Ts.takeN:Nat->Ts->Ts
 |0,_=>.nil
 |_,.nil=>.nil
 |n+1,.cons k t kids rest=>.cons k t kids (rest.takeN n)
def Ts.dropN:Nat->Ts->Ts
 |0,l=>l
 |_,.nil=>.nil
 |n+1,.cons _ _ _ rest=>rest.dropN n
theorem Ts.take_len:∀(n:Nat) (l:Ts),n<=l.len->(l.takeN n).len=n
 |0,l,_=>by cases l<;>rfl
 |n+1,.nil,h=>by simp[Ts.len] at h
 |n+1,.cons k t kids rest,h=>by simp only[Ts.takeN,Ts.len] at h⊢; rw[Ts.take_len n rest Zo]
theorem Ts.drop_len:∀(n:Nat) (l:Ts),n<=l.len->n+(l.dropN n).len=l.len
 |0,l,_=>by simp[Ts.dropN]
 |n+1,.nil,h=>by simp[Ts.len] at h
 |n+1,.cons k t kids rest,h=>by simp only[Ts.dropN,Ts.len] at h⊢; have:=Ts.drop_len n rest Zo; omega
theorem Ts.take_nodes:∀(n:Nat) (l:Ts),(l.takeN n).nodes<=l.nodes
 |0,l=>by cases l<;>simp[Ts.takeN,Ts.nodes]
 |n+1,.nil=>by simp[Ts.takeN]
 |n+1,.cons k t kids rest=>by simp only[Ts.takeN,Ts.nodes]; have:=Ts.take_nodes n rest; omega
theorem Ts.drop_nodes:∀(n:Nat) (l:Ts),(l.dropN n).nodes<=l.nodes
 |0,l=>by simp[Ts.dropN]
 |n+1,.nil=>by simp[Ts.dropN]
 |n+1,.cons k t kids rest=>by simp only[Ts.dropN,Ts.nodes]; have:=Ts.drop_nodes n rest; omega
theorem Ts.take_deep:∀(n:Nat) (l:Ts),(l.takeN n).deep<=l.deep
 |0,l=>by cases l<;>simp[Ts.takeN,Ts.deep]
 |n+1,.nil=>by simp[Ts.takeN]
 |n+1,.cons k t kids rest=>by simp only[Ts.takeN,Ts.deep]; have:=Ts.take_deep n rest; omega
theorem Ts.drop_deep:∀(n:Nat) (l:Ts),(l.dropN n).deep<=l.deep
 |0,l=>by simp[Ts.dropN]
 |n+1,.nil=>by simp[Ts.dropN]
 |n+1,.cons k t kids rest=>by simp only[Ts.dropN,Ts.deep]; have:=Ts.drop_deep n rest; omega
theorem Ts.take_right (most:Int):∀(n:Nat) (l:Ts),l.right most=true->(l.takeN n).right most=true
 |0,l,_=>by cases l<;>rfl
 |n+1,.nil,_=>rfl
 |
  n+1,.cons k t kids rest,h=>by
  simp only[Ts.takeN,Ts.right,Bool.and_eq_true] at h⊢;exact⟨h.1,Ts.take_right most n rest h.2⟩
theorem Ts.drop_right (most:Int):∀(n:Nat) (l:Ts),l.right most=true->(l.dropN n).right most=true
 |0,l,h=>by simpa[Ts.dropN] using h
 |n+1,.nil,_=>rfl
 |
  n+1,.cons k t kids rest,h=>by
  simp only[Ts.dropN,Ts.right,Bool.and_eq_true] at h⊢;exact Ts.drop_right most n rest h.2
structure Ts.ok (l:Ts):Prop where
 nodes:l.nodes<=4000
 deep:l.deep<=100
 right:l.right 8=true
theorem Ts.ok_form {l:Ts}(h:l.ok):YT 8 l=0:=Ycv.2 ⟨h.nodes,h.deep,h.right⟩
theorem Ts.ok.take {l:Ts}(h:l.ok)(n:Nat):(l.takeN n).ok:=⟨Nat.le_trans (Ts.take_nodes n l) h.nodes,Nat.le_trans (Ts.take_deep n l) h.deep,Ts.take_right 8 n l h.right⟩
theorem Ts.ok.drop {l:Ts}(h:l.ok)(n:Nat):(l.dropN n).ok:=⟨Nat.le_trans (Ts.drop_nodes n l) h.nodes,Nat.le_trans (Ts.drop_deep n l) h.deep,Ts.drop_right 8 n l h.right⟩
theorem Ts.ok.kids {k:Int}{t:ByteArray}{kids rest:Ts}(h:(Ts.cons k t kids rest).ok):kids.ok:=by
 obtain⟨h1,h2,h3⟩:=h;simp only[Ts.nodes] at h1;simp only[Ts.right,Bool.and_eq_true] at h3;refine⟨by omega,?_,h3.1.2⟩;simp only[Ts.deep] at h2;by_cases hc:k=4\/k=8\/kids.len≠0
 ·rw[if_pos hc] at h2; omega
 ·have hk:kids.len=0:=by omega
  cases kids with
  |nil=>simp[Ts.deep]
  |cons=>simp[Ts.len] at hk
theorem Ts.ok.one {k:Int}{t:ByteArray}{kids rest:Ts}(h:(Ts.cons k t kids rest).ok):YS k t kids.len=true/\k<=8:=by
 have h3:=h.right;simp only[Ts.right,Bool.and_eq_true,decide_eq_true_eq] at h3;exact⟨h3.1.1.2,h3.1.1.1⟩
theorem Yap {k:Int}{t:ByteArray}{n:Nat}(h:YS k t n=true):t.size<=501:=by
 unfold YS at h;split at h
 ·have:=of_decide_eq_true h; omega
 ·split at h
  ·unfold YC at h;simp only[Bool.and_eq_true,decide_eq_true_eq] at h;omega
  ·split at h
   ·cases h
   ·split at h
    ·have:=of_decide_eq_true h; omega
    ·split at h
     ·unfold Ja at h;simp only[Bool.and_eq_true,decide_eq_true_eq] at h;omega
     ·split at h
      ·rw[YeK] at h;simp only[Bool.and_eq_true,decide_eq_true_eq] at h;have h5:=h.1.1.2;rw[Yk4] at h5;unfold numT at h5;split at h5
       ·rw[ByteArray.size_extract] at h5; omega
       ·omega
      ·split at h
       ·unfold J6 at h;simp only[Bool.and_eq_true,decide_eq_true_eq] at h;omega
       ·cases h
theorem Yea (prev nextK:Option Int)(k:Int)(t:ByteArray)(kn:Bool)(kw:List UInt8)(ht:t.size<=501):(Yac prev nextK k t kn kw).length<=2009+kw.length:=by
 have e1:=Ycc 34 t.data.toList;have e2:=Ycw 39 (bu t 0);have e3:=Yhq k t;have e4:t.data.toList.length=t.size:=Array.length_toList;have e5:(YeN k t).data.toList.length=(YeN k t).size:=Array.length_toList;unfold Yac;rw[List.length_append];have a1:(if prev.isSome=true/\(k≠1\/JK prev=true) then [32] else ([]:List UInt8)).length<=1:=by split<;>simp
 have a2:(if k=1 then (if JK prev then [39] else [])++escT 39 (bu t 0)++(if JK nextK then [39] else [])
  else if k=2 then (if YC 60 t=true then t.data.toList else 34::(t.data.toList.flatMap (escT 34)++[34]))
  else if k=3 then t.data.toList
  else if k=4 then 40::(kw++[41])
  else if k=8 then 60::(t.data.toList++((if kn then [] else [32])++(kw++[62])))
  else (YeN k t).data.toList).length<=2008+kw.length:=by
   repeat' split
   all_goals (try simp only[List.length_append,List.length_cons,List.length_nil])
   all_goals omega
 omega
theorem Yfj:∀(l:Ts) (prev:Option Int),l.right 8=true->(l.wr prev).length<=2009*l.nodes
 |.nil,_,_=>by simp[Ts.wr]
 |
  .cons k t kids rest,prev,h=>by
  simp only[Ts.right,Bool.and_eq_true] at h;have h1:=Yfj kids none h.1.2;have h2:=Yfj rest (some k) h.2;have h3:=Yea prev rest.headK k t (kids.len==0) (kids.wr none) (Yap h.1.1.2);simp only[Ts.wr,List.length_append,Ts.nodes];omega
def Ts.escs:Nat->Ts->List UInt8
 |0,_=>[]
 |_,.nil=>[]
 |n+1,.cons _ t _ rest=>escT 39 (bu t 0)++rest.escs n
theorem YfN (n:Nat)(l:Ts):(l.takeN (n+1)).headK=l.headK:=by cases l<;>rfl
theorem YbC {k:Int}{t:ByteArray}{kids rest:Ts}(h:k=1):(Ts.cons k t kids rest).run=rest.run+1:=by simp[Ts.run,h]
theorem Ym9:∀l:Ts,(l.takeN l.run).wr (some 1)=l.escs l.run++(if l.run=0 then [] else [39])
 |.nil=>rfl
 |
  .cons k t kids rest=>by
  by_cases h:k=1
  ·subst h;rw[YbC rfl];have ih:=Ym9 rest;simp only[Ts.takeN,Ts.wr,ih,Ts.escs];have e:Yac (some 1) (rest.takeN rest.run).headK 1 t (kids.len==0) (kids.wr none)=escT 39 (bu t 0)++(if JK (rest.takeN rest.run).headK then [39] else []):=by
    simp[Yac,JK]
   rw[e];cases hr:rest.run with
   |
    zero=>
    have:rest.takeN 0= .nil:=by cases rest<;>rfl
    rw[this];simp[Ts.headK,JK,Ts.escs]
   |
    succ n=>
    rw[YfN];have:rest.headK=some 1:=by
     cases rest with
     |nil=>simp[Ts.run] at hr
     |
      cons k2 t2 kids2 rest2=>
      by_cases hk:k2=1
      ·rw[hk]; rfl
      ·simp[Ts.run,hk] at hr
    rw[this];simp[JK]
  ·have:(Ts.cons k t kids rest).run=0:=by simp[Ts.run,h]
   rw[this]; rfl
theorem Yky {t:ByteArray}{kids rest:Ts}:((Ts.cons 1 t kids rest).takeN (rest.run+1)).wr none=39::((Ts.cons 1 t kids rest).escs (rest.run+1)++[39]):=by
 have ih:=Ym9 rest;simp only[Ts.takeN,Ts.wr,ih,Ts.escs];have e:Yac none (rest.takeN rest.run).headK 1 t (kids.len==0) (kids.wr none)=39::(escT 39 (bu t 0)++(if JK (rest.takeN rest.run).headK then [39] else [])):=by
  simp[Yac,JK]
 rw[e];cases hr:rest.run with
 |
  zero=>
  have:rest.takeN 0= .nil:=by cases rest<;>rfl
  rw[this];simp[Ts.headK,JK,Ts.escs]
 |
  succ n=>
  rw[YfN];have:rest.headK=some 1:=by
   cases rest with
   |nil=>simp[Ts.run] at hr
   |
    cons k2 t2 kids2 rest2=>
    by_cases hk:k2=1
    ·rw[hk]; rfl
    ·simp[Ts.run,hk] at hr
  rw[this];simp[JK]
theorem Yg7:∀l:Ts,l.run≠0->l.words=(39::(l.escs l.run++[39]))::(l.dropN l.run).words
 |.nil,h=>by simp[Ts.run] at h
 |
  .cons k t kids rest,h=>by
  have hk:k=1:=by
   by_cases q:k=1
   ·exact q
   ·simp[Ts.run,q] at h
  subst hk;rw[YbC rfl];simp only[Ts.words,Ts.escs,Ts.dropN];rw[if_neg Zd,if_neg Zd,if_pos trivial];cases hr:rest.run with
  |
   zero=>
   have hn:¬rest.headK=some 1:=by
    intro q;cases rest with
    |nil=>simp[Ts.headK] at q
    |
     cons k2 t2 kids2 rest2=>
     have:k2=1:=by simpa[Ts.headK] using q
     subst this;rw[YbC rfl] at hr; omega
   unfold Yj1;rw[if_neg hn];simp[Ts.escs,Ts.dropN]
  |
   succ n=>
   have ih:=Yg7 rest Zo;have hn:rest.headK=some 1:=by
    cases rest with
    |nil=>simp[Ts.run] at hr
    |
     cons k2 t2 kids2 rest2=>
     by_cases hk:k2=1
     ·rw[hk]; rfl
     ·simp[Ts.run,hk] at hr
   rw[ih,hr];unfold Yj1;rw[if_pos hn];simp
def Ts.part (l:Ts):Nat:=max l.run 1
theorem Yju {k:Int}{t:ByteArray}{kids rest:Ts}(h4:k≠4)(h8:k≠8):
 (Ts.cons k t kids rest).wordsB=Ydn ((Ts.cons k t kids rest).takeN (Ts.cons k t kids rest).part)::((Ts.cons k t kids rest).dropN (Ts.cons k t kids rest).part).wordsB:=by
 by_cases hk:k=1
 ·subst hk;have hr:(Ts.cons 1 t kids rest).part=rest.run+1:=by unfold Ts.part; rw[YbC rfl]; omega
  have e:=Yg7 (.cons 1 t kids rest) (by rw[YbC rfl]; omega);rw[YbC rfl] at e;rw[hr];unfold Ts.wordsB Ydn;rw[e,Yky];rfl
 ·have hr:(Ts.cons k t kids rest).part=1:=by unfold Ts.part; simp[Ts.run,hk]
  rw[hr];have e0:(Ts.cons k t kids rest).takeN 1= .cons k t kids .nil:=by cases rest<;>rfl
  have e1:(Ts.cons k t kids rest).dropN 1=rest:=by simp only[Ts.dropN]
  rw[e0,e1];unfold Ts.wordsB Ydn;simp only[Ts.words,if_neg h4,if_neg h8,if_neg hk,List.map_cons,Ts.wr,List.append_nil,Ts.headK];congr 1
  unfold Yac;simp only[if_neg h4,if_neg h8,if_neg hk];rfl
theorem YeV {t:ByteArray}{kids rest:Ts}:(Ts.cons 4 t kids rest).wordsB=Yad ⟨#[41]⟩ ⟨#[40]⟩ true kids.wordsB++rest.wordsB:=by
 unfold Ts.wordsB;simp only[Ts.words,if_pos,List.map_append,YfX];rfl
theorem YfV {t:ByteArray}{kids rest:Ts}:(Ts.cons 8 t kids rest).wordsB=Yad ⟨#[62]⟩ (⟨#[60]⟩++t) false kids.wordsB++rest.wordsB:=by
 unfold Ts.wordsB;have e:(8:Int)≠4:=Zd;simp only[Ts.words,if_neg e,if_pos,List.map_append,YfX];rw[show bA (60::t.data.toList)=⟨#[60]⟩++t by rw[Yn8,Yn7]];rfl
def sumL (l:List (List UInt8)):Nat:=(l.map List.length).sum
theorem Yaw (x:List UInt8)(l:List (List UInt8)):sumL (x::l)=x.length+sumL l:=by simp[sumL]
theorem YiB (a b:List (List UInt8)):sumL (a++b)=sumL a+sumL b:=by simp[sumL]
theorem Ybz:∀(e:List UInt8) (ws:List (List UInt8)) (o:List UInt8) (d:Bool),sumL (Jw e o d ws)=o.length+sumL ws+e.length
 |e,[],o,d=>by cases d<;>simp[Jw,sumL]
 |e,x::r,o,true=>by rw[Jw,Ybz e r,Yaw,List.length_append]; omega
 |e,x::r,o,false=>by rw[Jw,Yaw,Ybz e r,Yaw]; omega
theorem Yei:∀(l:Ts),l.right 8=true->sumL l.words<=2009*l.nodes
 |.nil,_=>by simp[Ts.words,sumL]
 |
  .cons k t kids rest,h=>by
  simp only[Ts.right,Bool.and_eq_true] at h;have h1:=Yei kids h.1.2;have h2:=Yei rest h.2;have h3:=Yap h.1.1.2;have h4:=Yea none none k t true [] h3;have h5:=Ycw 39 (bu t 0);have h6:t.data.toList.length=t.size:=Array.length_toList;simp only[Ts.words,Ts.nodes];split
  ·rw[YiB,Ybz]; simp only[List.length_cons,List.length_nil]; omega
  ·split
   ·rw[YiB,Ybz]; simp only[List.length_cons,List.length_nil]; omega
   ·split
    ·unfold Yj1;split
     ·split
      ·rename_i hw
       rw[hw,Yaw] at h2;rw[Yaw];simp only[List.length_cons,List.length_append,List.length_drop];omega
      ·simp only[sumL,List.map_nil,List.sum_nil]; omega
     ·rw[Yaw]; simp only[List.length_cons,List.length_append,List.length_nil]; omega
    ·rw[Yaw]; simp only[List.length_nil] at h4; omega
theorem Ymc {l:List (List UInt8)}{x:List UInt8}(h:x∈l):x.length<=sumL l:=by
 induction l with
 |nil=>cases h
 |
  cons y l ih=>
  rw[Yaw];rcases List.mem_cons.1 h with rfl | h
  ·omega
  ·have:=ih h; omega
theorem YhK {l:Ts}(h:l.ok):∀x∈l.wordsB,x.size<=10000000:=by
 intro x hx;obtain⟨y,hy,rfl⟩:=List.mem_map.1 hx;have h1:=Ymc hy;have h2:=Yei l h.right;have h3:=h.nodes;rw[Ye6];omega
theorem Ybt:∀(l:Ts),l.words.length<=2*l.nodes
 |.nil=>by simp[Ts.words]
 |
  .cons k t kids rest=>by
  have h1:=Ybt kids;have h2:=Ybt rest;have h3:∀(e:List UInt8) (ws:List (List UInt8)) (o:List UInt8) (d:Bool),(Jw e o d ws).length<=ws.length+1:=by
   intro e ws;induction ws with
   |nil=>intro o d; cases d<;>simp[Jw]
   |
    cons x r ih=>
    intro o d;cases d
    ·have:=ih x false; simp only[Jw,List.length_cons]; omega
    ·have:=ih (o++x) false; simp only[Jw,List.length_cons]; omega
  simp only[Ts.words,Ts.nodes];split
  ·have:=h3 [41] kids.words [40] true; rw[List.length_append]; omega
  ·split
   ·have:=h3 [62] kids.words (60::t.data.toList) false; rw[List.length_append]; omega
   ·split
    ·unfold Yj1;split
     ·split
      ·rename_i hw; rw[hw] at h2; simp only[List.length_cons] at h2⊢; omega
      ·simp
     ·rw[List.length_cons]; omega
    ·rw[List.length_cons]; omega
theorem YiZ:∀(n:Nat) (l:Ts),(l.escs n).length<=4*n
 |0,l=>by cases l<;>simp[Ts.escs]
 |n+1,.nil=>by simp[Ts.escs]
 |
  n+1,.cons k t kids rest=>by
  have h1:=YiZ n rest;have h2:=Ycw 39 (bu t 0);simp only[Ts.escs,List.length_append];omega
theorem YmB {k:Int}{t:ByteArray}{kids rest:Ts}(h4:k≠4)(h8:k≠8)(h:(Ts.cons k t kids rest).ok):(Ydn ((Ts.cons k t kids rest).takeN (Ts.cons k t kids rest).part)).size<=40000:=by
 have hn:=h.nodes;simp only[Ts.nodes] at hn;have e:∀l:List UInt8,(⟨l.toArray⟩:ByteArray).size=l.length:=Ye6;unfold Ydn;rw[e];by_cases hk:k=1
 ·subst hk;have hr:(Ts.cons 1 t kids rest).part=rest.run+1:=by unfold Ts.part; rw[YbC rfl]; omega
  have h1:=YiZ (rest.run+1) (.cons 1 t kids rest);have h2:=Ts.run_le rest;have h3:=Ts.len_le rest;rw[hr,Yky];simp only[List.length_cons,List.length_append,List.length_nil];omega
 ·have hr:(Ts.cons k t kids rest).part=1:=by unfold Ts.part; simp[Ts.run,hk]
  rw[hr];have e0:(Ts.cons k t kids rest).takeN 1= .cons k t kids .nil:=by cases rest<;>rfl
  rw[e0];have h1:=Yap h.one.1;have h2:=Yea none none k t (kids.len==0) [] h1;have h3:Yac none none k t (kids.len==0) (kids.wr none)=Yac none none k t (kids.len==0) []:=by
   unfold Yac;simp only[if_neg h4,if_neg h8]
  simp only[Ts.wr,Ts.headK,List.append_nil,h3];simp only[List.length_nil] at h2;omega
end Go.Proofs.YteamjdmhdfjopaaGreatDoor

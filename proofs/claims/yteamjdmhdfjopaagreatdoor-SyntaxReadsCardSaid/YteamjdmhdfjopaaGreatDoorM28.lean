/- A part of the proof; it holds the texts Scan (names and blanks shortened). -/
import Derived.Test.YteamjdmhdfjopaaGreatDoorM27
import Derived.Test.YteamjdmhdfjopaaGreatDoorM13
namespace Go.Proofs.YteamjdmhdfjopaaGreatDoor
open Go.RowKit
set_option maxRecDepth 100000
set_option maxHeartbeats 8000000
set_option linter.unusedVariables false
set_option linter.unusedSimpArgs false
def Yoc (_s:ByteArray)(w:World)(R:YdZ)(e:Ending)(W':World):Prop:=
 Below w.heap.size w W'/\match R with
 |.bad c x=>e= .returned (.tuple #[.slice none 0 0,.int .i64 x,.int .i64 c])
 |.ok l _=>∃vo,e= .returned (.tuple #[vo,.int .i64 0,.int .i64 0])/\W'.ownsRow w.heap.size 136 3 vo l.length (Jq l)/\(vo= .slice none 0 0↔l=[])
theorem Ym2 (s:ByteArray)(m:Int)(w:World)(hs:s.size<=40000)(hm:w.cell? ⟨2,0,none⟩=some (.int .i64 m))(hE:ErrT w):
 Calls Tryz.prog 33 #[.string s] w (Yoc s w (Yax s)):=by
 have hg:2<w.heap.size:=World.block_lt_of_cell? w _ hm;have hgE:3<w.heap.size:=World.block_lt_of_cell? w _ hE;have hS:=Ymq s m w hs hg hm;generalize Yax s=R at hS⊢;go_enter Tryz.func33,Tryz.ntmps33;go_wp2_with fail;refine hS.mono ?_;intro e w1 hP;cases R with
 |
  bad c x=>
  obtain⟨b,k,rfl,hk,hb⟩:=hP;go_wp2_with fail;refine(Yjc k x c w1 ((hb.cell (p:=⟨3,0,none⟩) hgE).trans hE) hk).mono ?_;rintro e w2 ⟨rfl,hb2⟩;go_wp2_with fail;go_ret3
  exact⟨hb.trans (hb2.mono hb.size),rfl⟩
 |
  ok l sp=>
  obtain⟨b,v,vo,rfl,hrow,hnil,hA,hb⟩:=hP;go_wp2_with fail;refine(Yma w1).mono ?_;rintro e w2 ⟨rfl,hb2⟩;go_wp2_with fail;go_ret3
  refine⟨hb.trans (hb2.mono hb.size),vo,rfl,(Keep.of_below (S:=fun _=>False) hb2).owns hrow (fun _ _ q=>q),hnil⟩
end Go.Proofs.YteamjdmhdfjopaaGreatDoor

/- Part of the proof of WholeMatching. -/
import Derived.Test.YtbedbfdhfokifaaGreatJBG
import Derived.Test.YtbedbfdhfokifaaGreatJBH
namespace Go.Proofs.YtbedbfdhfokifaaGreat
set_option maxRecDepth 100000
set_option maxHeartbeats 16000000
set_option linter.unusedVariables false
set_option linter.unusedSimpArgs false
open _root_.Bool renaming false->ag
open Go renaming World->Z,Calls->aF,Addr->aG,Value->aj,maxLen->bK
open Go.Obj renaming cells->U
open Go.Proofs.Tryz renaming prog->ak
open Go.Value renaming slice->T,string->av,agg->az
open _root_.Option renaming none->J,some->N
open Go.RowKit
structure IC (aH:Array aj) (cur:ByteArray) (y m p:Int) (cl:List Acc) (cA:Option aG) (cc:Nat) (ro:dZ) (el:List aY) (eA:Option aG) (ec:Nat) (n:Nat) (sA:Option aG) (sc:Nat) (k:Nat) (rA:Option aG) (rc:Nat):Prop where
 size:aH.size=27
 ik: ∀ j,j<21->aH[j]? =(kF cur y m p cl.length cA cc ro el.length eA ec)[j]?
 si:aH[21]? =N (T sA n sc)
 rat:aH[22]? =N (T rA k rc)
section
variable (aH:Array aj) (cur:ByteArray) (y m p:Int) (cl:List Acc) (cA:Option aG) (cc:Nat) (ro:dZ) (el:List aY) (eA:Option aG) (ec:Nat) (w:Z)
theorem X3 {n k:Nat} {sA rA:Option aG} {sc rc:Nat} (h:IC aH cur y m p cl cA cc ro el eA ec n sA sc k rA rc) {w:Z} {b:Nat} {t:TypeId} (hB:au w b t aH):w.rangeAt b 0 (kF cur y m p cl.length cA cc ro el.length eA ec).toList:=λj v hv=>by
 have hj:j<21:=by
  have:=(vg.1 hv).1;exact this
 rw[nN,hB.cell j,h.ik j hj,<- q9];exact hv
theorem agF (es:List aI) (sA:Option aG) (sc:Nat) (k:Nat) (rA:Option aG) (rc:Nat) (h3:IC aH cur y m p cl cA cc ro el eA ec es.length sA sc k rA rc) (h:eB w cl cA el eA) (gT:cur.size<=bK) (hcl:cl.length<=bK) (hel:el.length<=bK) (hr:Rd w w.heap.size 7 sA es.length (cellsOf aI.cells es)) (hok: ∀ x∈es,x.Ok w) (hes:es.length<=bK):
 aF ak 5 #[az aH] w (Jy (MR cur cl el es/\k<=300) w):=by
 have H3:=I h3;have h27:(ak.info? 36).map (·.size)=N 27:=ai;have hbz:(ak.info? 36).map (·.size)=N aH.size:=by rw[H3.out.size];kernel_rfl
 have hb1:Below w.heap.size w (w.alloc (U aH 36)):=(aD _ _).alloc (aC _) _;have df:=I (au.new w 36 aH);have KF:=I (λ(W:Z) (hb:Below w.heap.size w W)=>ajn (kF cur y m p cl.length cA cc ro el.length eA ec) cur y m p cl cA cc ro el eA ec W es sA sc (I rfl) (h.step hb) gT hcl hel (Rd.now hr hb) (λx hx=>(hok x hx).step hb) hes);unfold Jy at*;have Ec:=I (λ(W:Z) (b:Nat) (t:TypeId) (hB:au W b t aH)=>X3 aH cur y m p cl cA cc ro el eA ec H3.out hB);generalize hG:kF cur y m p cl.length cA cc ro el.length eA ec=fP at*;have hgs:fP.size=21:=by rw[<- hG];rfl
 clear hG h hr hok h3;go_enter Tryz.func5,Tryz.ntmps5;go_upto_region 1 with fail
 generalize w.alloc (U aH 36)=w1 at*;have c21:w1.cell? ⟨w.heap.size,21,J⟩=N (T sA es.length sc):=(df.out.cell 21).trans H3.out.si;go_wp2_with (first
  |(refine gP rfl 29 (.tmp 3) rfl w.heap.size 0 rfl fP (Ec.out _ _ _ df.out) bQ 21 gy hgs ?_)
  |(go_at_call 18;refine(KF.out w1 hb1).mono ?_;rintro r w2 ⟨b,rfl,ah,hq⟩;have hb2:=ay hb1 ah;have HQ:=I hq;have JI:w2.cell? ⟨w.heap.size,22,J⟩=N (T rA k rc):=((df.out.step ah).cell 22).trans H3.out.rat;clear ah hq;cases b))
 ·go_ret;exact⟨ag,rfl,hb2,λh=>by cases h⟩
 ·go_ret;exact⟨_,rfl,hb2,λh=>⟨HQ.out aL,by first|(have:=iY h;omega)|(simp at h;omega)⟩⟩
theorem aoS (es:List aI) (sA:Option aG) (sc:Nat) (rl:List aW) (rA:Option aG) (rc:Nat) (h3:IC aH cur y m p cl cA cc ro el eA ec es.length sA sc rl.length rA rc) (h:eB w cl cA el eA) (hF:lY cur cl el) (hE:kL w es sA) (hn:es.length<=1000) (hsc:es.length<=sc) (hr:Rd w w.heap.size 4 rA rl.length (cellsOf aW.cells rl)) (hw: ∀ r∈rl,r.cK.size<=bK) (hrn:rl.length<=300):
 aF ak 6 #[az aH] w (fD (qW (Gr.gv cur cl ro el (ax.ok y m p)) el.length (Jn.kB el) (Jn.dB y m p) es&&Rt.valid cur rl) w):=by
 have H3:=I h3;have h27:(ak.info? 36).map (·.size)=N 27:=ai;have hbz:(ak.info? 36).map (·.size)=N aH.size:=by rw[H3.out.size];kernel_rfl
 have hb1:Below w.heap.size w (w.alloc (U aH 36)):=(aD _ _).alloc (aC _) _;have df:=I (au.new w 36 aH);have KV:=I (λ(W:Z) (hb:Below w.heap.size w W)=>am0 (kF cur y m p cl.length cA cc ro el.length eA ec) cur y m p cl cA cc ro el eA ec W es sA sc (I rfl) (h.step hb) hF (hE.step hb) hn hsc);have KR:=I (λ(W:Z) (hb:Below w.heap.size w W)=>amj cur rl rA rc W (Rd.now hr hb) hw hF.cur hrn);unfold fD at*;have Ec:=I (λ(W:Z) (b:Nat) (t:TypeId) (hB:au W b t aH)=>X3 aH cur y m p cl cA cc ro el eA ec H3.out hB);have zM:Hid (aH[0]? =N (av cur)):=I ((H3.out.ik 0 O).trans rfl);generalize qW (Gr.gv cur cl ro el (ax.ok y m p)) el.length (Jn.kB el) (Jn.dB y m p) es=V1 at*;generalize Rt.valid cur rl=V2 at*;generalize hG:kF cur y m p cl.length cA cc ro el.length eA ec=fP at*;have hgs:fP.size=21:=by rw[<- hG];rfl
 clear hG h hr hE h3 hw;go_enter Tryz.func6,Tryz.ntmps6;go_upto_region 1 with fail
 generalize w.alloc (U aH 36)=w1 at*;have c21:w1.cell? ⟨w.heap.size,21,J⟩=N (T sA es.length sc):=(df.out.cell 21).trans H3.out.si
 cases V1
 ·go_wp2_with (first
   |(refine gP rfl 29 (.tmp 3) rfl w.heap.size 0 rfl fP (Ec.out _ _ _ df.out) bQ 21 gy hgs ?_)
   |(go_at_call 19;refine(KV.out w1 hb1).mono ?_;rintro r w2 ⟨rfl,ah⟩;have hb2:=ay hb1 ah;clear ah))
  go_ret;exact⟨rfl,hb2⟩
 ·go_wp2_with (first
   |(refine gP rfl 29 (.tmp 3) rfl w.heap.size 0 rfl fP (Ec.out _ _ _ df.out) bQ 21 gy hgs ?_)
   |(go_at_call 19;refine(KV.out w1 hb1).mono ?_;rintro r w2 ⟨rfl,ah⟩;have hb2:=ay hb1 ah;have c0:w2.cell? ⟨w.heap.size,0,J⟩=N (av cur):=((df.out.step ah).cell 0).trans zM.out;have JI:w2.cell? ⟨w.heap.size,22,J⟩=N (T rA rl.length rc):=((df.out.step ah).cell 22).trans H3.out.rat;clear ah)
   |(go_at_call 20;refine(KR.out w2 hb2).mono ?_;rintro r w3 ⟨rfl,ah⟩;have hb3:=ay hb2 ah;clear ah))
  go_ret;exact⟨rfl,hb3⟩
end
end Go.Proofs.YtbedbfdhfokifaaGreat

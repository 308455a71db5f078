/- Part of the proof of WholeMatching. -/
import Derived.Test.YtbedbfdhfokifaaGreatJAD
import Derived.Test.YtbedbfdhfokifaaGreatJAM
import Derived.Test.YtbedbfdhfokifaaGreatJAP
import Derived.Shelf.SlSortCmp.NoneTotal
namespace Go.Proofs.YtbedbfdhfokifaaGreat
set_option maxRecDepth 100000
set_option maxHeartbeats 16000000
set_option linter.unusedVariables false
set_option linter.unusedSimpArgs false
open _root_.And renaming intro->cz
open _root_.Array renaming replicate->kZ,range->wW
open _root_.Bool renaming true->ae,false->ag
open Go renaming World->Z,Calls->aF,Addr->aG,Aside->aU,CallsIn->aaM,sizeOf->aaR,Value->aj,Oper->dC,Program->dH,Ending->eG
open Go.Builtin renaming zeroCells->lX
open Go.Ending renaming returned->bM
open Go.Fence renaming wide->lC
open Go.Instr renaming index->yx
open Go.IntKind renaming i64->F
open Go.Obj renaming cells->U
open Go.Proofs.Tryz renaming prog->ak
open Go.Sort renaming grow->aa9
open Go.Value renaming int->G,slice->T,bool->aA,string->av,agg->az,tuple->bG
open _root_.Option renaming none->J,some->N
open Go.RowKit
def Ap (l:List aM) (i:Nat):Bool:= !(l.take i).any λy=>y.holder==(l.getD i default).holder
theorem ahq (l:List aM) (i:Nat) (hi:i<l.length) (A:Option aG) (cp:Nat) (w:Z) (hr:Rd w w.heap.size 4 A l.length (hcells l)) (hn:l.length<=1000):
 aF ak 56 #[T A l.length cp,G F i] w (fD (Ap l i) w):=by
 have HR:=I hr;have hb:=aD w.heap.size w;clear hr;have HF:Hid (∀ k (hk:k<i),(l[k]'O).holder=l[i].holder->Ap l i=ag):=I (λk hk he=>by
  unfold Ap;rw[getD_lt l i default hi,Bool.not_eq_false',vG];have h2:k<(l.take i).length:=by rw[jR];omega
  exact⟨(l.take i)[k],bP h2,by rw[yD];simpa using he⟩)
 have HG:Hid ((∀ k (hk:k<i),(l[k]'O).holder≠l[i].holder)->Ap l i=ae):=I (λh=>by
  unfold Ap;rw[getD_lt l i default hi,Dv,uy];intro x hx;obtain⟨k,hk,rfl⟩:=zG hx;rw[yD];rw[jR]at hk
  simpa using h k O)
 generalize Ap l i=R at*;obtain⟨b,o,hA,aX,g0,g1,g2,g3⟩:=aM.at_ HR.out hi;have QF:=I (λW (h:Below w.heap.size w W)=>(h.cell (p:=⟨b,o+i*4,J⟩) aX).trans g0);clear g0 g1 g2 g3;have hiz:(i:Int)<(l.length:Int):=O;generalize l[i].holder=xh at*;go_enter Tryz.func56,Tryz.ntmps56;go_wp2_with fail;go_loopw [5] (λt wr=> ∃ k:Nat,k<=i/\t= G F k/\(∀ j (hj:j<k) (h2:j<l.length),(l[j]'h2).holder≠xh)/\Below w.heap.size w wr) (λt _=>i - (intOf t).toNat)
 case atStart=>exact⟨0,O,rfl,λj h=>O,hb⟩
 case round=>
  clear hb;obtain⟨k,hk,rfl,hno,hb⟩:=hrel;have HN:=I hno;clear hno
  by_cases hlt:k<i
  ·have hkl:k<l.length:=O;obtain⟨b2,o2,hA2,qR,f0,f1,f2,f3⟩:=aM.at_ (Rd.now HR.out hb) hkl;rw[hA]at hA2;obtain⟨rfl,rfl⟩:b=b2/\o=o2:=by simpa using hA2
   subst hA;have q0:=λd:Later wr=>d.cell (ji aX hb.size) f0
   have r0:=λd:Later wr=>d.cell (ji aX hb.size) (QF.out wr hb)
   have hkz:(k:Int)<(l.length:Int):=O;clear f0 f1 f2 f3;have HFk:=I (HF.out k hlt);have HST:Hid (l[k].holder≠xh-> ∀ j (hj:j<k+1) (h2:j<l.length),(l[j]'h2).holder≠xh):=I (λhq j hj h2=>by
    by_cases e:j=k
    ·subst e;exact hq
    ·exact HN.out j O h2)
   generalize l[k].holder=yh at*
   cases c:(yh==xh)
   ·have HS:=I (HST.out (by simpa using c));go_wp2_with fail;refine eX ai ai ?_;(repeat (go_big_quiet_step ((fail))));refine wpQuiet_nil ?_;rintro _ ⟨dq,rfl⟩;have hbe:=ay hb dq.below;go_wp2_with fail;go_roundw
    case rel=>exact⟨k+1,O,by go_num,HS.out,hbe⟩
    case measure=>simp[intOf];omega
   ·have HE:=I (HFk.out (by simpa using c));go_wp2_with fail;refine eX ai ai ?_;(repeat (go_big_quiet_step ((fail))));refine wpQuiet_nil ?_;rintro _ ⟨dq,rfl⟩;have hbe:=ay hb dq.below;go_wp2_with fail;go_ret;exact⟨by rw[HE.out];rfl,hbe⟩
  ·have HE:=I (HG.out (λj hj=>HN.out j O O));go_wp2_with fail;go_ret;exact⟨by rw[HE.out];rfl,hb⟩
theorem aht (l:List aM) (e d:Int) (A:Option aG) (cp:Nat) (w:Z) (hr:Rd w w.heap.size 4 A l.length (hcells l)) (hn:l.length<=1000) (hs: ∀ x∈l,0<=x.share/\x.share<=10000):
 aF ak 23 #[T A l.length cp,G F e,G F d] w (Gj (aT.total l e d) w):=by
 have HR:=I hr;have hb:=aD w.heap.size w;have KF:=I (λi hi W h=>ahq l i hi A cp W h hn);have KA:=I (λh W hr=>ahp l h e d A cp W hr hn);have HS:=I hs;clear hr hs;go_enter Tryz.func23,Tryz.ntmps23;go_wp2_with fail;go_loopw [7,8] (λs t wr=> ∃ k:Nat,k<=l.length/\t= G F k/\s= G F (aT.jA l e d (aT.jU (l.take k)))/\Below w.heap.size w wr) (λ_ t _=>l.length - (intOf t).toNat)
 case atStart=>exact⟨0,O,rfl,rfl,hb⟩
 case round=>
  clear hb;obtain⟨k,hk,rfl,rfl,hb⟩:=hrel
  by_cases hlt:k<l.length
  ·obtain⟨b,o,hA,aX,f0,f1,f2,f3⟩:=aM.at_ HR.out hlt;subst hA;have QF:=I (λW (h:Below w.heap.size w W)=>(h.cell (p:=⟨b,o+k*4,J⟩) aX).trans f0);clear f0 f1 f2 f3;have hkz:(k:Int)<(l.length:Int):=O;have HT:=I (aT.agT l k hlt);have IW:Hid (Ap l k=ae↔ ¬ ∃ y∈l.take k,y.holder=l[k].holder):=I (by
    unfold Ap;rw[getD_lt l k default hlt];simp)
   have hbd:=aT.aca l e d HS.out (aT.jU (l.take k));have hfl:=aT.agQ (l.take k);rw[jR]at hfl;have Nw:=I (KF.out k hlt);have hxb:=aT.JE l l[k].holder e d HS.out;have Ju:=I (KA.out l[k].holder);generalize Ap l k=fb at*;generalize l[k].holder=xh at*
   cases fb
   ·have HE:Hid (aT.jU (l.take (k+1))=aT.jU (l.take k)):=I (by rw[HT.out,bB];exact Vy λh=>by simpa using IW.out.2 h);clear hbd hfl hxb;go_wp2_with (go_at_call 56;refine(Nw.out _ (Rd.now HR.out hb)).mono ?_;rintro ee w2 ⟨rfl,hb2⟩;have hb3:=ay hb hb2);go_roundw
    case rel=>exact⟨k+1,O,by go_num,by rw[HE.out],hb3⟩
    case measure=>simp[intOf];omega
   ·have HE:Hid (aT.jA l e d (aT.jU (l.take (k+1)))=aT.jA l e d (aT.jU (l.take k))+aT.at_ l xh e d):=I (by
     rw[HT.out,bE (IW.out.1 rfl),aT.ab9];simp[aT.jA])
    generalize aT.jA l e d (aT.jU (l.take k))=s at*;generalize aT.at_ l xh e d=a at*;have hws:F.wrap (s+a)=s+a:=iL _ O;clear hbd hfl hxb;go_wp2_with (first
     |(go_at_call 56;refine(Nw.out _ (Rd.now HR.out hb)).mono ?_;rintro ee w2 ⟨rfl,hb2⟩;have hb3:=ay hb hb2;have g0:=QF.out _ hb3)
     |(go_at_call 57;refine(Ju.out _ (Rd.now HR.out hb3)).mono ?_;rintro ee w3 ⟨rfl,ah⟩;have hb4:=ay hb3 ah))
    go_roundw
    case rel=>exact⟨k+1,O,by go_num,by rw[HE.out],hb4⟩
    case measure=>simp[intOf];omega
  ·have hle:l.take k=l:=kS O;have HE:Hid (aT.total l e d=aT.jA l e d (aT.jU (l.take k))):=I (by rw[hle];rfl);clear hle;go_wp2_with fail;go_ret;exact⟨by rw[HE.out];rfl,hb⟩
theorem ahS {L:List aM} {k i:Nat} (hk:k<L.length) (hi:i<k) (h:aT.same (L[i]'O) L[k]=ae):aT.before L k=ae:=by
 unfold aT.before;rw[getD_lt L k default hk,vG];have h2:i<(L.take k).length:=by rw[jR];omega
 refine⟨(L.take k)[i],bP h2,?_⟩;rw[yD];exact h
theorem ahT {L:List aM} {k:Nat} (hk:k<L.length) (h: ∀ i (hi:i<k),aT.same (L[i]'O) L[k]=ag):aT.before L k=ag:=by
 unfold aT.before;rw[getD_lt L k default hk,uy];intro x hx;obtain⟨i,hi,rfl⟩:=zG hx;rw[yD];rw[jR]at hi
 simpa using h i O
theorem Oz {n:Int} {L:List aM} (h: ∀ j,j<L.length->aT.one n L j=ae): ∀ x∈L,0<=x.share/\x.share<=10000:=by
 intro x hx;obtain⟨j,hj,rfl⟩:=zG hx;have:=h j hj;simp only[aT.one,aT.yl,getD_lt L j default hj,bR,dm]at this;exact this.1.2.2.2.2.2.2
def TS (n:Int) (L:List aM):Bool:=iZ L.length (aT.one n L)&&iZ L.length (aT.few L)
theorem ahu (n:Int) (L:List aM) (A:Option aG) (cp:Nat) (w:Z) (hr:Rd w w.heap.size 4 A L.length (hcells L)) (hn:L.length<=30):
 aF ak 7 #[G F n,T A L.length cp] w (fD (aT.valid n L) w):=by
 have HR:=I hr;have HV:Hid (aT.valid n L=(decide (1<=n)&&(decide (n<=12)&&(decide (L.length<=200)&&TS n L)))):=I rfl;have QY:Hid (TS n L=(iZ L.length (aT.one n L)&&iZ L.length (aT.few L))):=I rfl;have hb:=aD w.heap.size w;have apS: ¬ (200:Int)<(L.length:Int):=O;clear hr;generalize aT.valid n L=V at*
 by_cases c1:n<1
 ·have HE:Hid (V=ag):=I (by rw[HV.out,show decide (1<=n)=ag from iw O];rfl);go_enter Tryz.func7,Tryz.ntmps7;go_wp2_with fail;go_ret;exact⟨by rw[HE.out];rfl,hb⟩
 by_cases c2:12<n
 ·have HE:Hid (V=ag):=I (by rw[HV.out,show decide (n<=12)=ag from iw O];simp);go_enter Tryz.func7,Tryz.ntmps7;go_wp2_with fail;go_ret;exact⟨by rw[HE.out];rfl,hb⟩
 have kW:Hid (V=TS n L):=I (by rw[HV.out,show decide (1<=n)=ae from kK O,show decide (n<=12)=ae from kK O,show decide (L.length<=200)=ae from kK O];rfl);clear HV;go_enter Tryz.func7,Tryz.ntmps7;go_wp2_with fail;go_loopw [5] (λt wr=> ∃ k:Nat,k<=L.length/\(∀ j,j<k->aT.one n L j=ae)/\t= G F k/\Below w.heap.size w wr) (λt _=>L.length - (intOf t).toNat)
 case atStart=>exact⟨0,O,λj h=>O,rfl,hb⟩
 case round=>
  clear hb;obtain⟨k,hk,hno,rfl,hb⟩:=hrel;have HN:=I hno;clear hno
  by_cases hlt:k<L.length
  ·obtain⟨b,o,hA,aX,f0,f1,f2,f3⟩:=aM.at_ HR.out hlt;subst hA;have HF:=I (λW (h:Below w.heap.size w W)=>cz ((h.cell (p:=⟨b,o+k*4,J⟩) aX).trans f0) (cz ((h.cell (p:=⟨b,o+k*4+1,J⟩) aX).trans f1) (cz ((h.cell (p:=⟨b,o+k*4+2,J⟩) aX).trans f2) ((h.cell (p:=⟨b,o+k*4+3,J⟩) aX).trans f3))));clear f0 f1 f2 f3;obtain⟨f0,f1,f2,f3⟩:=HF.out wr hb;have xG:Hid (aT.one n L k=(aT.yl n L[k]&& !aT.before L k)):=I (by unfold aT.one;rw[getD_lt L k default hlt]);have eH:Hid (aT.one n L k=ag->V=ag):=I (λh=>by rw[kW.out,QY.out,kD hlt h];rfl);have Qz:=I (λi hi=> @ahS L k i hlt hi);have Qx:=I (@ahT L k hlt);have KP:=I (λW=>ahr n L[k] W);have KS:=I (λ(a:aM) W=>ahs a L[k] W);generalize L[k]=x at*;unfold aM.val at KP KS;obtain⟨xc,xk,xt,xv⟩:=x;dsimp only at*
   cases hp:aT.yl n ⟨xc,xk,xt,xv⟩
   ·have HE:Hid (V=ag):=I (eH.out (by rw[xG.out,hp];rfl));rw[hp]at KP;clear hp;go_wp2_with (go_at_call 21;refine(KP.out _).mono ?_;rintro e w2 ⟨rfl,hb2⟩;have hb3:=ay hb hb2);go_ret;exact⟨by rw[HE.out];rfl,hb3⟩
   ·have HP:=I hp;rw[hp]at KP;clear hp;go_wp2_with (go_at_call 21;refine(KP.out _).mono ?_;rintro e w2 ⟨rfl,hb2⟩;have hb3:=ay hb hb2);clear f0 f1 f2 f3 hb2;go_loopw [6] (λt wr=> ∃ i:Nat,i<=k/\(∀ j (hj:j<i) (h2:j<L.length),aT.same (L[j]'h2) ⟨xc,xk,xt,xv⟩=ag)/\t= G F i/\Below w.heap.size w wr) (λt _=>k - (intOf t).toNat)
    case atStart=>exact⟨0,O,λj h=>O,rfl,hb3⟩
    case round=>
     clear hb hb3;obtain⟨i,hi,xZ,rfl,hb⟩:=hrel;have jm:=I xZ;clear xZ
     by_cases hik:i<k
     ·have hil:i<L.length:=O;have aii:(i:Int)<(L.length:Int):=O;obtain⟨f0,f1,f2,f3⟩:=HF.out wr hb;obtain⟨b2,o2,hA2,qR,g0,g1,g2,g3⟩:=aM.at_ (Rd.now HR.out hb) hil;obtain⟨rfl,rfl⟩:b=b2/\o=o2:=by simpa using hA2
      have q0:=λd:Later wr=>d.cell (ji aX hb.size) f0
      have q1:=λd:Later wr=>d.cell (ji aX hb.size) f1
      have q2:=λd:Later wr=>d.cell (ji aX hb.size) f2
      have q3:=λd:Later wr=>d.cell (ji aX hb.size) f3
      have r0:=λd:Later wr=>d.cell (ji aX hb.size) g0
      have r1:=λd:Later wr=>d.cell (ji aX hb.size) g1
      have r2:=λd:Later wr=>d.cell (ji aX hb.size) g2
      have r3:=λd:Later wr=>d.cell (ji aX hb.size) g3
      clear f0 f1 f2 f3 g0 g1 g2 g3;have Qw:=I (Qz.out i hik);have jl:=I (λW=>KS.out L[i] W);have HST:Hid (aT.same L[i] ⟨xc,xk,xt,xv⟩=ag-> ∀ j (hj:j<i+1) (h2:j<L.length),aT.same (L[j]'h2) ⟨xc,xk,xt,xv⟩=ag):=I (λhq j hj h2=>by
       by_cases e:j=i
       ·subst e;exact hq
       ·exact jm.out j O h2)
      generalize L[i]=y at*;obtain⟨yc,yk,yt,yv⟩:=y;dsimp only at*
      cases hs:aT.same ⟨yc,yk,yt,yv⟩ ⟨xc,xk,xt,xv⟩
      ·have HS:=I hs;rw[hs]at jl;clear hs;go_wp2_with fail;refine eX ai ai ?_;(repeat (go_big_quiet_step (((go_at_call 22;exact Later.call _ (jl.out _))))));refine wpQuiet_nil ?_;rintro _ ⟨dq,rfl⟩;have hbe:=ay hb dq.below;go_wp2_with fail;go_roundw
       case rel=>exact⟨i+1,O,HST.out HS.out,by go_num,hbe⟩
       case measure=>simp[intOf];omega
      ·have HE:Hid (V=ag):=I (eH.out (by rw[xG.out,Qw.out hs];simp));rw[hs]at jl;clear hs;go_wp2_with fail;refine eX ai ai ?_;(repeat (go_big_quiet_step (((go_at_call 22;exact Later.call _ (jl.out _))))));refine wpQuiet_nil ?_;rintro _ ⟨dq,rfl⟩;have hbe:=ay hb dq.below;go_wp2_with fail;go_ret;exact⟨by rw[HE.out];rfl,hbe⟩
     ·have HO:Hid (aT.one n L k=ae):=I (by rw[xG.out,HP.out,Qx.out (λj hj=>jm.out j O O)];rfl);go_wp2_with fail;go_roundw
      case rel=>
       refine⟨k+1,O,λj hj=> ?_,by go_num,hb⟩
       by_cases e:j=k
       ·subst e;exact HO.out
       ·exact HN.out j O
      case measure=>simp[intOf];omega
  ·have HA:Hid (iZ L.length (aT.one n L)=ae):=I (nT (λj hj=>HN.out j O));have KT:=I (λe d W hr=>aht L e d A cp W hr O (Oz (λj hj=>HN.out j O)));go_wp2_with fail;go_loopw [7] (λt wr=> ∃ k:Nat,k<=L.length/\(∀ j,j<k->aT.few L j=ae)/\t= G F k/\Below w.heap.size w wr) (λt _=>L.length - (intOf t).toNat)
   case atStart=>exact⟨0,O,λj h=>O,rfl,hb⟩
   case round=>
    clear hb;obtain⟨k,hk,hno,rfl,hb⟩:=hrel;have WC:=I hno;clear hno
    by_cases hlt:k<L.length
    ·obtain⟨b,o,hA,aX,f0,f1,f2,f3⟩:=aM.at_ (Rd.now HR.out hb) hlt;subst hA;have hkz:(k:Int)<(L.length:Int):=O;have q1:=λd:Later wr=>d.cell aX f1
     have q2:=λd:Later wr=>d.cell aX f2
     clear f0 f1 f2 f3;have MZ:Hid (aT.few L k=decide (aT.total L L[k].bF L[k].date<=10000)):=I (by unfold aT.few;rw[getD_lt L k default hlt]);have eH:Hid (aT.few L k=ag->V=ag):=I (λh=>by rw[kW.out,QY.out,kD hlt h];simp);have NC:=I (KT.out L[k].bF L[k].date);generalize L[k].bF=xe at*;generalize L[k].date=xd at*;generalize aT.total L xe xd=tt at*
     cases c:decide (10000<tt)
     ·have HO:Hid (aT.few L k=ae):=I (by rw[MZ.out];simp at c |-;exact c);go_wp2_with fail;refine eX ai ai ?_;(repeat (go_big_quiet_step (((go_at_call 23;exact Later.call _ (NC.out _ (Rd.now HR.out (ay hb (Later.below _)))))))));refine wpQuiet_nil ?_;rintro _ ⟨dq,rfl⟩;have hbe:=ay hb dq.below;go_wp2_with fail;go_roundw
      case rel=>
       refine⟨k+1,O,λj hj=> ?_,by go_num,hbe⟩
       by_cases e:j=k
       ·subst e;exact HO.out
       ·exact WC.out j O
      case measure=>simp[intOf];omega
     ·have HE:Hid (V=ag):=I (eH.out (by rw[MZ.out];simp at c |-;exact c));go_wp2_with fail;refine eX ai ai ?_;(repeat (go_big_quiet_step (((go_at_call 23;exact Later.call _ (NC.out _ (Rd.now HR.out (ay hb (Later.below _)))))))));refine wpQuiet_nil ?_;rintro _ ⟨dq,rfl⟩;have hbe:=ay hb dq.below;go_wp2_with fail;go_ret;exact⟨by rw[HE.out];rfl,hbe⟩
    ·have HE:Hid (V=ae):=I (by rw[kW.out,QY.out,HA.out,nT (λj hj=>WC.out j O)];rfl);go_wp2_with fail;go_ret;exact⟨by rw[HE.out];rfl,hb⟩
def LA:Op->Bool
 | .defer _=>ag
 |_=>ae
theorem anl {P:dH} {n l:Nat} {row:String} {args:Array aj} {w:Z} {R:aj->Z->Prop} (h:Rows P row args w R):RowsIn (lC.inRound l) n P row args w R:=
 λc cs _=>let ⟨v,w',r,s⟩:=h c cs;⟨v,w',r,(stepsIn_wide (P:=P)).2 s⟩
section
variable {P:dH} {ops:Array dC} {l n:Nat} {K:Act->Z->Prop} {Q:Exit->Act->Z->Prop} {a:Act} {w:Z}
theorem ak4 {o:dC} {next:Act->Z->Prop} (hnd:LA o.op=ae) (h:o.wp P a w next (Exit.then K (λ_ _ _=>False))):o.wpIn (lC.inRound l) n P a w next (Exit.then K Q):=by
 refine⟨λ_ _=>trivial,?_⟩;rw[Oper.semAt_eq _ _ _ (λc hc=>by rw[hc]at hnd;cases hnd)];unfold Oper.wp at h;generalize (execOp a.eval o).run P w=r at*
 cases r with
 |ok x w'=>
  cases x<;>simp only[Oper.upon,Oper.uponIn]at h |-
  case value=>exact h
  case skip=>exact h
  case defer=>exact h
  case enter f xs=>
   refine cz (λhd=>(by cases hd)) (aaM.inRound l ((jM.2 h).mono λe w2 he=> ?_))
   rcases e with v|c| -
   ·exact he
   ·exact he.elim
   ·obtain⟨_,_,hf⟩:=he;exact hf.elim
  case row r xs=>exact cz (λhd=>(by cases hd)) (anl h)
 |halt x w'=>
  cases x<;>simp only[Oper.upon,Oper.uponIn]at h |-
  case panic v=>exact h.elim
theorem ao6 {i:Nat} {next:Act->Z->Prop} (hnd:ops.all (λo=>LA o.op)=ae) (h:wpOp P ops (Exit.then K (λ_ _ _=>False)) i next a w):wpOpIn (lC.inRound l) n P ops (Exit.then K Q) i next a w:=by
 unfold wpOp at h;unfold wpOpIn
 cases ho:ops[i]? with
 |none=>simpa [ho] using h
 |some o=>
  simp only[ho]at h |-
  split
  ·rename_i hw;simp only[hw,sV]at h
   rcases h with h|⟨_,_,_,hf⟩
   ·exact ak4 (by obtain⟨hi,rfl⟩:=nM.1 ho;exact(Array.all_eq_true.1 hnd) i hi) h
   ·exact hf.elim
  ·rename_i hw;simp only[hw]at h;exact⟨λ_ _=>trivial,h⟩
theorem Vn (hnd:ops.all (λo=>LA o.op)=ae): ∀ (fuel:Nat) (listed:Array Bool) (a:Act) (w:Z),wpAny P .any ops (Exit.then K (λ_ _ _=>False)) fuel listed a w->wpAnyIn (lC.inRound l) n P .any ops (Exit.then K Q) fuel listed a w
 |0,_,_,_,h=>h
 |fuel+1,listed,a,w,h=>⟨h.1,λi hi=>ao6 hnd (wpOp_mono (λa' w' h'=>Vn hnd fuel _ a' w' h') (h.2 i hi))⟩
variable {t:Nat} {S:Z->Prop}
theorem abv {id m:Nat} {ls:List dC} (S:Z->Prop) (t:Nat) (hm:P.follows .mixedOrders=ae) (hn:ls.length=m) (hnd:ls.toArray.all (λo=>LA o.op)=ae)
 (h:jX P ls.toArray (Exit.then K (λ_ _ _=>False)) (λw'=> ∃ d:aK S,w'=d.now) t m (kZ m ag) a w.drew):(Code.region id ls.toArray ae).wpIn (lC.inRound l) n P (Exit.then K Q) a w:=by
 subst hn;exact wpIn_region_any hm (Vn hnd _ _ _ _ (PM _ _ _ _ (by simpa using h)))
theorem amg {id:Nat} {ls:List dC} (C:Z->Prop) (hm:P.follows .mixedOrders=ae) (hB:Region.lexB .any ls.toArray=ae) (hnd:ls.toArray.all (λo=>LA o.op)=ae) (hC:C w.drew)
 (h:wpQuiet P ls.toArray C (λa'=> ∀ w',C w'->K a' w') ls a):(Code.region id ls.toArray ae).wpIn (lC.inRound l) n P (Exit.then K Q) a w:=by
 simp only[Region.lexB,bR]at hB;refine wpIn_region_any hm (Vn hnd _ _ _ _ (wpAny_of_quiet (Q:=λa'=> ∀ w',C w'->K a' w') (λ_ w' hw' h=>h w' hw') _ _ _ _ hC ?_));have:=wpAnyQ_lex (C:=C) (md:= .any) hB.1 ls 0 (kZ ls.toArray.size ag) a aL (by simpa using hB.2) (by simpa using h)
 simpa using this
end
def JM (a b:bW):Int:=sw [fO a.date b.date,fO a.ref.entry b.ref.entry,fO a.pos b.pos,fO a.ref.line b.ref.line]
def iy (W w':Z):Prop:= ∃ (n:Nat) (os:Array Obj),w'=aa9 (W.drewN n) os
theorem iy.refl (w:Z):iy w w:=⟨0,#[],by simp[aa9,World.drewN]⟩
theorem iy.drew {W w':Z} (h:iy W w'):iy W w'.drew:=by
 obtain⟨n,os,rfl⟩:=h;exact⟨n+1,os,rfl⟩
theorem iy.alloc {W w':Z} (h:iy W w') (o:Obj):iy W (w'.alloc o):=by
 obtain⟨n,os,rfl⟩:=h;exact⟨n,os++ #[o],by rw[Sort.alloc_eq_grow,Sort.grow_grow]⟩
theorem alX (x y:bW) (w:Z):aF ak 190 #[az x.cells.toArray,az y.cells.toArray] w (λe w'=>e= .returned (G F (JM x y))/\iy w w'):=by
 obtain⟨⟨a0,a1⟩,a2,a3,a4,⟨a5,a6,a7⟩⟩:=x;obtain⟨⟨b0,b1⟩,b2,b3,b4,⟨b5,b6,b7⟩⟩:=y;unfold bW.cells;dsimp only;have HCM:Hid (JM ⟨⟨a0,a1⟩,a2,a3,a4,⟨a5,a6,a7⟩⟩ ⟨⟨b0,b1⟩,b2,b3,b4,⟨b5,b6,b7⟩⟩=sw [fO a2 b2,fO a0 b0,fO a3 b3,fO a1 b1]):=I rfl;generalize JM ⟨⟨a0,a1⟩,a2,a3,a4,⟨a5,a6,a7⟩⟩ ⟨⟨b0,b1⟩,b2,b3,b4,⟨b5,b6,b7⟩⟩=R at*;have hA:=(au.new w 176 #[G F a0,G F a1,G F a2,G F a3,G F a4,G F a5,G F a6,G F a7]).alloc (U #[G F b0,G F b1,G F b2,G F b3,G F b4,G F b5,G F b6,G F b7] 176);have hB:=eT w (U #[G F a0,G F a1,G F a2,G F a3,G F a4,G F a5,G F a6,G F a7] 176) 176 #[G F b0,G F b1,G F b2,G F b3,G F b4,G F b5,G F b6,G F b7];have HG:Hid (iy w ((w.alloc (U #[G F a0,G F a1,G F a2,G F a3,G F a4,G F a5,G F a6,G F a7] 176)).alloc (U #[G F b0,G F b1,G F b2,G F b3,G F b4,G F b5,G F b6,G F b7] 176)).drew):=I (((iy.refl w).alloc _).alloc _).drew;go_enter Tryz.func190,Tryz.ntmps190;go_upto_region 1 with fail
 generalize (w.alloc (U #[G F a0,G F a1,G F a2,G F a3,G F a4,G F a5,G F a6,G F a7] 176)).alloc (U #[G F b0,G F b1,G F b2,G F b3,G F b4,G F b5,G F b6,G F b7] 176)=W at*;obtain⟨S,hS⟩: ∃ S:Z->Prop,S=λw'=>iy w w'/\(au w' w.heap.size 176 #[G F a0,G F a1,G F a2,G F a3,G F a4,G F a5,G F a6,G F a7]/\au w' (w.heap.size+1) 176 #[G F b0,G F b1,G F b2,G F b3,G F b4,G F b5,G F b6,G F b7]):=⟨_,rfl⟩
 have aR:Hid (∀ w':Z,(iy w w'/\(au w' w.heap.size 176 #[G F a0,G F a1,G F a2,G F a3,G F a4,G F a5,G F a6,G F a7]/\au w' (w.heap.size+1) 176 #[G F b0,G F b1,G F b2,G F b3,G F b4,G F b5,G F b6,G F b7]))↔S w'):=I (λw'=>by rw[hS]);clear hS;have hC: ∃ d:aK S,W.drew=d.now:=aK.of ((aR.out _).1 ⟨HG.out,hA.drew,hB.drew⟩);haveI:Nonempty (aK S):=by obtain⟨d,_⟩:=hC;exact⟨d⟩
 have p0: ∀ d:aK S,d.now.cell? ⟨w.heap.size,0,J⟩=N (G F a0):=λd=>((aR.out _).2 d.is).2.1.cell 0
 have p1: ∀ d:aK S,d.now.cell? ⟨w.heap.size,1,J⟩=N (G F a1):=λd=>((aR.out _).2 d.is).2.1.cell 1
 have p2: ∀ d:aK S,d.now.cell? ⟨w.heap.size,2,J⟩=N (G F a2):=λd=>((aR.out _).2 d.is).2.1.cell 2
 have p3: ∀ d:aK S,d.now.cell? ⟨w.heap.size,3,J⟩=N (G F a3):=λd=>((aR.out _).2 d.is).2.1.cell 3
 have q0: ∀ d:aK S,d.now.cell? ⟨w.heap.size+1,0,J⟩=N (G F b0):=λd=>((aR.out _).2 d.is).2.2.cell 0
 have q1: ∀ d:aK S,d.now.cell? ⟨w.heap.size+1,1,J⟩=N (G F b1):=λd=>((aR.out _).2 d.is).2.2.cell 1
 have q2: ∀ d:aK S,d.now.cell? ⟨w.heap.size+1,2,J⟩=N (G F b2):=λd=>((aR.out _).2 d.is).2.2.cell 2
 have q3: ∀ d:aK S,d.now.cell? ⟨w.heap.size+1,3,J⟩=N (G F b3):=λd=>((aR.out _).2 d.is).2.2.cell 3
 clear hA hB HG;refine nK (n:=27) S 26 ai rfl ?_;have hT:=tg 0;(iterate 4 refine aab hT hC ?_;clear hT;intro hT K hK;go_big_quiet_op;go_big_quiet_on);clear hT;have hT:=tg 5;(iterate 6 refine aab hT hC ?_;clear hT;intro hT K hK;go_big_quiet_op;go_big_quiet_on);clear hT;have hT:=tg 12;(iterate 4 refine aab hT hC ?_;clear hT;intro hT K hK;go_big_quiet_op;go_big_quiet_on);clear hT;have hT:=tg 17;(iterate 6 refine aab hT hC ?_;clear hT;intro hT K hK;go_big_quiet_op;go_big_quiet_on);clear hT;generalize W.drew=W1 at*;clear p0 p1 p2 p3 q0 q1 q2 q3;refine dw (i:=4) ai rfl rfl ?_;intro K hK;go_simp;go_at_call 38;refine(Cj _ _ _).mono ?_;rintro e w5 ⟨rfl,rfl⟩
 (try go_wp2_with fail)
 refine hK _ _ (.inr (.inr hC)) ?_;clear hK K
 (try simp only[Zx])
 refine dw (i:=11) ai rfl rfl ?_;intro K hK;go_simp;go_at_call 38;refine(Cj _ _ _).mono ?_;rintro e w5 ⟨rfl,rfl⟩
 (try go_wp2_with fail)
 refine hK _ _ (.inr (.inr hC)) ?_;clear hK K
 (try simp only[Zx])
 refine dw (i:=16) ai rfl rfl ?_;intro K hK;go_simp;go_at_call 38;refine(Cj _ _ _).mono ?_;rintro e w5 ⟨rfl,rfl⟩
 (try go_wp2_with fail)
 refine hK _ _ (.inr (.inr hC)) ?_;clear hK K
 (try simp only[Zx])
 refine dw (i:=23) ai rfl rfl ?_;intro K hK;go_simp;go_at_call 38;refine(Cj _ _ _).mono ?_;rintro e w5 ⟨rfl,rfl⟩
 (try go_wp2_with fail)
 refine hK _ _ (.inr (.inr hC)) ?_;clear hK K
 (try simp only[Zx])
 refine dw (i:=24) ai rfl rfl ?_;intro K hK;go_simp;have hC2: ∃ d:aK S,W1.alloc (U #[G F (fO a2 b2),G F (fO a0 b0),G F (fO a3 b3),G F (fO a1 b1)] 3)=d.now:=aK.of ((aR.out _).1 ⟨((aR.out _).2 (aK.un hC)).1.alloc _,((aR.out _).2 (aK.un hC)).2.1.alloc _,((aR.out _).2 (aK.un hC)).2.2.alloc _⟩);refine hK _ _ (.inr (.inr hC2)) ?_;clear hK K;have oZ:=I (aa3 [fO a2 b2,fO a0 b0,fO a3 b3,fO a1 b1] _ 4 (W1.alloc (U #[G F (fO a2 b2),G F (fO a0 b0),G F (fO a3 b3),G F (fO a1 b1)] 3)) (Rd.uT (au.new W1 3 _) rfl rfl) aL)
 (try simp only[Zx])
 refine dw (i:=25) ai rfl rfl ?_;intro K hK;go_simp;go_at_call 37;refine(oZ.out).mono ?_;rintro e w5 ⟨rfl,rfl⟩
 (try go_wp2_with fail)
 refine hK _ _ (.inr (.inr hC2)) ?_;clear hK K
 (try simp only[Zx])
 refine dw (i:=26) ai rfl rfl ?_;intro K hK;go_simp;refine hK _ _ (.inr (.inl rfl)) ?_;clear hK K
 (try simp only[Zx])
 refine kH ai ?_ _;go_wp2_with fail;go_ret;exact⟨jg HCM.out.symm,((aR.out _).2 (aK.un hC2)).1⟩
section
open Go.Shelf Go.RowKit Go.Lib Go.Sort
section
variable {α:Type} [Inhabited α] {enc:α->List aj} {k:Nat} {w0 W:Z} {blk off:Nat} {dk:Array α}
theorem Yu (k t i:Nat) (hk:0<k):(i*k<=t/\t<i*k+k)↔t / k=i:=by
 constructor
 ·rintro⟨h1,h2⟩;exact Nat.div_eq_of_lt_le h1 (by rw[Nat.add_mul,Nat.one_mul];exact h2)
 ·rintro rfl;have h1:=PQ t k;have h2:=Ie t hk;rw[Me]at h1;omega
theorem anS (hk: ∀ x,(enc x).length=k) (dk:Array α) (i:Nat) (hi:i<=dk.size) (zr:α) (zc:Array aj) (hz:enc zr=zc.toList):
 setMany (flatK enc k dk) (i*k) (lX zc (dk.size - i)).toList=flatK enc k ((wW dk.size).map λt=>if t<i then dk[t]! else zr):=by
 have hzs:zc.size=k:=by rw[<- hk zr,hz];simp
 have hl:(lX zc (dk.size - i)).toList.length=(dk.size - i)*k:=by simp[lX,hzs]
 apply ext_get!
 ·simp
 ·intro t ht;have ht':t<dk.size*k:=by simpa using ht
  have hkp:0<k:=Nat.pos_of_ne_zero λh=>by rw[h]at ht';simp at ht'
  have htd:t / k<dk.size:=(Qh hkp).2 ht';have hmod:t % k<k:=Ie t hkp;rw[get_setMany _ _ _ t (by simpa using ht'),get_flatK _ _ _ t ht',get_flatK _ _ _ t (by simpa using ht'),hl,<- Nat.add_mul,show i+(dk.size - i)=dk.size from O];have eg:((wW dk.size).map λt=>if t<i then dk[t]! else zr)[t / k]! =if t / k<i then dk[t / k]! else zr:=by
   rw[gG _ _ (by simpa using htd)];simp
  rw[eg]
  by_cases h:i*k<=t
  ·rw[bB ⟨h,ht'⟩,bE (by have:=(Nat.le_div_iff_mul_le hkp).2 h;omega)];have hts:t - i*k<(dk.size - i)*k:=by rw[Nat.sub_mul];omega
   have hm:(t - i*k) % k=t % k:=by
    conv=>rhs;rw[show t=(t - i*k)+i*k from O,Nat.add_mul_mod_self_right]
   rw[gG (lX zc (dk.size - i)).toList _ (by rw[hl];exact hts)];simp only[lX,hzs,Array.toList_map,vw,Array.toList_range,Mh];rw[hz,hm,gG zc _ O,gG zc.toList _ (by simpa [hzs] using hmod)];simp
  ·rw[bE O,bB (by rcases Bi (t / k) i with h2|h2<;>first|exact h2|exact absurd ((Nat.le_div_iff_mul_le hkp).1 h2) h)]
theorem anR (hk: ∀ x,(enc x).length=k) (dk:Array α) (i:Nat) (hi:i<dk.size) (x:α):
 setMany (flatK enc k dk) (i*k) (enc x)=flatK enc k (dk.setIfInBounds i x):=by
 apply ext_get!
 ·simp
 ·intro t ht;have ht':t<dk.size*k:=by simpa using ht
  have hkp:0<k:=Nat.pos_of_ne_zero λh=>by rw[h]at ht';simp at ht'
  have htd:t / k<dk.size:=(Qh hkp).2 ht';rw[get_setMany _ _ _ t (by simpa using ht'),get_flatK _ _ _ t ht',get_flatK _ _ _ t (by simpa using ht'),hk];have eg:(dk.setIfInBounds i x)[t / k]! =if t / k=i then x else dk[t / k]! :=by
   rw[gG _ _ (by simpa using htd),Iy]
   split<;>rename_i h
   ·rw[bB h.symm]
   ·rw[bE (pK h),gG dk _ htd]
  rw[eg]
  by_cases h:t / k=i
  ·rw[bB ((Yu k t i hkp).2 h),bB h]
   congr 1
   rw[Nat.mod_eq_sub_div_mul,h]
  ·rw[bE (λh2=>h ((Yu k t i hkp).1 h2)),bE h]
theorem SWK.akP (h:SWK enc k w0 blk off dk W) (hblk:blk<w0.heap.size) (dk':Array α) (hs:dk'.size=dk.size):SWK enc k w0 blk off dk' (putRowK enc k W blk off dk'):=by
 have:=h.on hblk 0 dk' #[] hs;unfold sortWorldK at this
 rwa [grow_empty]at this
theorem SWK.sets {d0:Array α} (h:SWK enc k w0 blk off dk W) (R:RowK enc k w0 blk off d0) (hs:dk.size=d0.size) (s:Nat) (vs:List aj) (dk':Array α) (hd:dk'.size=dk.size) (hl:s+vs.length<=dk.size*k) (e:setMany (flatK enc k dk) s vs=flatK enc k dk'):
 SWK enc k w0 blk off dk' (W.setCells blk (off+s) vs):=by
 have hh:Holds id W blk off (flatK enc k dk):=h.holds R.hblk R.hH hs;have e2:W.setCells blk (off+s) vs=putRowK enc k W blk off dk':=by
  conv=>lhs;rw[<- putRow_self id W blk off (flatK enc k dk) hh]
  rw[setCells_putRow _ _ _ _ _ _ (by rw[size_flatK];exact hl),e]
  rfl
 rw[e2];exact SWK.akP h R.hblk dk' hd
theorem SWK.put {d0:Array α} (h:SWK enc k w0 blk off dk W) (R:RowK enc k w0 blk off d0) (hs:dk.size=d0.size) (i:Nat) (hi:i<dk.size) (x:α):
 SWK enc k w0 blk off (dk.setIfInBounds i x) (W.setCells blk (off+i*k) (enc x)):=
 SWK.sets h R hs (i*k) (enc x) (dk.setIfInBounds i x) aL (by rw[R.hk];exact rowK_bnd dk k i hi) (anR R.hk dk i hi x)
theorem SWK.zero {d0:Array α} (h:SWK enc k w0 blk off dk W) (R:RowK enc k w0 blk off d0) (hs:dk.size=d0.size) (i:Nat) (hi:i<=dk.size) (zr:α) (zc:Array aj) (hz:enc zr=zc.toList):
 SWK enc k w0 blk off ((wW dk.size).map λt=>if t<i then dk[t]! else zr) (W.setCells blk (off+i*k) (lX zc (dk.size - i)).toList):=by
 have hzs:zc.size=k:=by rw[<- R.hk zr,hz];simp
 exact SWK.sets h R hs (i*k) _ _ aL (by simp[lX,hzs];rw[<- Nat.add_mul,show i+(dk.size - i)=dk.size from O];exact aC _) (anS R.hk dk i hi zr zc hz)
theorem SWK.U5 {d0:Array α} (h:SWK enc k w0 blk off dk W) (R:RowK enc k w0 blk off d0) (hs:dk.size=d0.size) (P:dH) (s:Nat) (vs:List aj) (hl:s+vs.length<=dk.size*k) (h1: ∀ v∈vs,v.oneCell'=ae):
 Sem.run P (storeCells ⟨blk,off+s,J⟩ vs 0) W= .ok () (W.setCells blk (off+s) vs):=
 stores_of_holds P (h.holds R.hblk R.hH hs) s _ (by rw[size_flatK];exact hl) h1
theorem SWK.Cy (h:SWK enc k w0 blk off dk W) {W':Z} (g:iy W W'):SWK enc k w0 blk off dk W':=by
 obtain⟨n,os,rfl⟩:=g;exact h.grown n os
theorem SWK.Yp {d0:Array α} (h:SWK enc k w0 blk off dk W) (R:RowK enc k w0 blk off d0) (hs:dk.size=d0.size) (P:dH) (i:Nat) (hi:i<=dk.size) (zr:α) (zc:Array aj) (hz:enc zr=zc.toList) (t e ty:TypeId) (c:Nat) (ht:P.underlying t=N (.slice e)) (hv: ∀ w,(zeroValue e).run P w= .ok (az zc) w):
 (Builtin.clear_ #[t] ty #[T (N ⟨blk,off+i*k,J⟩) (dk.size - i) c]).run P W= .ok (.tuple #[]) (W.setCells blk (off+i*k) (lX zc (dk.size - i)).toList):=by
 have hzs:zc.size=k:=by rw[<- R.hk zr,hz];simp
 have st:=SWK.U5 h R hs P (i*k) (lX zc (dk.size - i)).toList (by simp[lX,hzs];rw[<- Nat.add_mul,show i+(dk.size - i)=dk.size from O];exact aC _) (by
  intro v hv2;simp only[lX,Array.toList_map,iW]at hv2;obtain⟨j,hj,rfl⟩:=hv2;simp only[Array.toList_range,zD]at hj;have hp:0<zc.size:=Nat.pos_of_ne_zero λh=>by rw[h]at hj;simp at hj
  have hm:=Ie j hp;refine R.h1 zr _ ?_;rw[hz,gG zc _ hm];simp)
 generalize hm:dk.size - i=m at st |-
 rcases m with _|m
 ·have e0:(lX zc 0).toList= []:=by simp[lX]
  rw[e0];simp[Builtin.clear_,kY ht,World.setCells]
 ·simp[Builtin.clear_,kY ht,hv,Value.cells,st]
theorem NT (P:dH) (W:Z) (c:Nat) (cs:List aj) (t:TypeId) (hk:cs.length=k) (h:au W c t cs.toArray):Sem.run P (loadCellsFrom ⟨c,0,J⟩ 0 k #[]) W= .ok cs.toArray W:=
 run_loadCellsFrom_list P W _ cs k hk (λj v hv=>by
  have e:=h.cell j;rw[Addr.add_lit,nN,e]
  simpa using hv)
theorem iy.keeps {W W':Z} (h:iy W W') {c:Nat} {t:TypeId} {cs:Array aj} (hB:au W c t cs):au W' c t cs:=by
 obtain⟨n,os,rfl⟩:=h;have hlt:c<W.heap.size:=by
  rcases Bi c W.heap.size with h|h
  ·exact h
  ·unfold au at hB;simp[P5 h]at hB
 unfold au at hB |-;unfold aa9;simp only[World.drewN];rw[Qi hlt];exact hB
theorem XU (W:Z) (t:TypeId): ∀ (vs:List aj) (o:Nat) (zs:Array aj),(W.alloc (U zs t)).setCells W.heap.size o vs=W.alloc (U (setMany zs o vs) t)
 | [],_,_=>rfl
 |v::r,o,zs=>by
  have e:(W.alloc (U zs t)).setCell ⟨W.heap.size,o,J⟩ v=W.alloc (U (zs.setIfInBounds o v) t):=by
   unfold World.setCell World.alloc;simp only
   congr 1
   apply Array.ext
   ·simp
   ·intro i h1 h2;simp only[Array.getElem_modify,Array.getElem_push];simp only[Array.size_modify,Array.size_push]at h1
    by_cases e:i<W.heap.size
    ·simp[e,Nat.ne_of_gt e]
    ·simp[show W.heap.size=i from O]
  rw[World.setCells,e,XU W t r (o+1),setMany]
theorem X6 (P:dH) (W:Z) (cs:List aj) (zc:Array aj) (t:TypeId) (hk:cs.length=zc.size) (h1: ∀ v∈cs,v.oneCell'=ae):
 Sem.run P (storeCells ⟨W.heap.size,0,J⟩ cs 0) (W.alloc (U zc t))= .ok () (W.alloc (U cs.toArray t)):=by
 have hB:=au.new W t zc;have st:=run_storeCells_cells (P:=P) W.heap.size 0 cs 0 (W.alloc (U zc t)) (λj hj=>by rw[hB.cell];simp;omega) (λj hj=>hB.frozen _) h1;rw[Ib]at st;rw[st,XU]
 congr 3
 apply ext_get!
 ·simp[hk]
 ·intro j hj;have hj':j<zc.size:=by simpa using hj
  rw[get_setMany _ _ _ j hj',bB ⟨lq _,O⟩,Nat.sub_zero,gG cs j O,gG cs.toArray j bL];simp
end
end
section
open Go.Shelf Go.RowKit Go.Lib Go.Sort
section
variable {α:Type} [Inhabited α] {f:α->List aj} {k:Nat} (hk: ∀ x,(f x).length=k) (h1: ∀ x,∀ v∈f x,v.oneCell'=ae)
include hk h1
theorem anY {w:Z} {g:Nat} {e:TypeId} {cur:Array aj} {l:List α} (hB:au w g e cur) (hc: ∀ (j:Nat) (u:aj),(cellsOf f l)[j]? =N u->cur[j]? =N u):RowK f k w g 0 l.toArray:=by
 refine⟨hk,h1,?_,hB.lt⟩;intro j hj;have hj':j<l.length*k:=by simpa using hj
 have hkp:0<k:=Nat.pos_of_ne_zero λh=>by rw[h]at hj';simp at hj'
 have hd:j / k<l.length:=(Qh hkp).2 hj';have hm:j % k<k:=Ie j hkp;refine⟨?_,hB.frozen _⟩;rw[hB.cell,nN,get_flatK _ _ _ _ (by simpa using hj'),gG l.toArray _ (by simpa using hd)];have e1:=Ex hk l (j / k) (j % k) hd hm;rw[show j / k*k+j % k=j from by rw[Me];exact PQ j k]at e1;have hm2:j % k<(f l[j / k]).length:=by rw[hk];exact hm
 rw[rq hm2]at e1;rw[hc j _ e1];simp only[MG,id];rw[gG (f l[j / k]) (j % k) hm2]
theorem Px {w:Z} {base:Nat} {e:TypeId} {v:aj} {l:List α} (h:w.ownsRow base e k v l.length (cellsOf f l)):
 (v= T J 0 0/\l= [])\/ ∃ g cap,v= .slice (N ⟨g,0,J⟩) l.length cap/\base<=g/\l.length<=cap/\RowK f k w g 0 l.toArray/\SWK f k w g 0 l.toArray w:=by
 rcases h.2 with ⟨h1,h2⟩|⟨g,cap,cur,hv,hb,hg,hnc,hcm,hcs,hct⟩
 ·exact .inl ⟨h1,zC h2⟩
 ·have R:=anY hk h1 (show au w g e cur from hg) (l:=l) (λj u hu=>by
   rw[<- hct]at hu;have hj:j<l.length*k:=by
    have:=(vg.1 hu).1;rw[jR]at this;omega
   rw[VD hj]at hu
   simpa using hu)
  exact .inr ⟨g,cap,hv,hb,hnc,R,SWK.start R.hH⟩
omit h1 in
theorem Ht {w W:Z} {base:Nat} {e:TypeId} {v:aj} {n g cap:Nat} {xs:List aj} {d0 dk:Array α} (h:w.ownsRow base e k v n xs) (hv:v= T (N ⟨g,0,J⟩) n cap) (R:RowK f k w g 0 d0) (hs:dk.size=d0.size) (hn:d0.size=n) (S:SWK f k w g 0 dk W) (m:Nat) (hm:m<=dk.size):
 W.ownsRow base e k (T (N ⟨g,0,J⟩) m cap) m (cellsOf f (dk.toList.take m))/\w.grownBy W (N g):=by
 rcases h.2 with ⟨h1,_⟩|⟨g',cap',cur,hv',hb,hg,hnc,hcm,hcs,hct⟩
 ·rw[hv]at h1;cases h1
 ·have e1:N (⟨g,0,J⟩:aG)=N ⟨g',0,J⟩/\cap=cap':=by
   have:=hv.symm.trans hv';injection this with a b c
   exact⟨a,c⟩
  obtain⟨e2,rfl⟩:=e1;injection e2 with e2
  injection e2 with e2
  subst e2;have HH:=S.holds R.hblk R.hH hs;obtain⟨q,os,hW⟩:=S;have aie:g<w.heap.size:=R.hblk;have hsz:(putRowK f k (Sort.ahead w q) g 0 dk).heap.size=w.heap.size:=by rw[size_putRowK];rfl
  have hgr:w.grownBy W (N g):=by
   rw[hW];refine⟨rfl,rfl,rfl,?_,?_⟩
   ·unfold sortWorldK;rw[size_grow,hsz];exact Nat.le_add_right _ _
   ·intro i hi hne;have hne':g≠i:=λe=>hne (by rw[e])
    unfold sortWorldK grow;simp only;rw[Qi (by rw[hsz];exact hi)];unfold putRowK putRow mapBlock;simp only[L9,bE hne',heap_ahead]
  have hblk:au W g e (putCells id 0 (flatK f k dk) cur):=by
   rw[hW];unfold au sortWorldK grow;simp only;rw[Qi (by rw[hsz];exact aie)];unfold putRowK putRow mapBlock;simp only[L9,bB,heap_ahead,hg]
   rfl
  refine⟨⟨?_,.inr ⟨g,cap,putCells id 0 (flatK f k dk) cur,rfl,hb,hblk,O,hcm,by simp[putCells,hcs],?_⟩⟩,hgr⟩
  ·rw[Ce hk,jR];congr 1;simp;omega
  ·have hlen:(cellsOf f (dk.toList.take m)).length=m*k:=by
    rw[Ce hk,jR];congr 1;simp;omega
   have hmc:m*k<=cap*k:=Nat.mul_le_mul_right k O;apply List.ext_getElem?;intro j
   by_cases hj:j<m*k
   ·have hkp:0<k:=Nat.pos_of_ne_zero λh=>by rw[h]at hj;simp at hj
    have hd:j / k<m:=(Qh hkp).2 hj;have hmd:j % k<k:=Ie j hkp;have hjk:j / k*k+j % k=j:=by rw[Me];exact PQ j k
    have hl:j / k<(dk.toList.take m).length:=by rw[jR];simp;omega
    have e3:=Ex hk (dk.toList.take m) (j / k) (j % k) hl hmd;rw[hjk]at e3;rw[e3,VD hj,q9,<- hblk.cell j];have hm2:j % k<(f (dk.toList.take m)[j / k]).length:=by rw[hk];exact hmd
    have c:=HoldsK.cell HH (i:=j / k) (c:=j % k) O hmd;rw[nN,hjk]at c;rw[c.1,rq hm2];have e4:dk[j / k]! =(dk.toList.take m)[j / k]:=by
     rw[gG dk _ O,yD];simp
    rw[e4,gG _ (j % k) hm2]
   ·rw[MH (by rw[jR];omega),MH (by rw[hlen];omega)]
end
end
section
open Go.Shelf Go.RowKit Go.Lib Go.Sort
theorem abb {α:Type} [Inhabited α] {d d':Array α} (h:PermIn 0 d.size d d'):d'.size=d.size/\d'.toList.Perm d.toList:=by
 obtain⟨hsz,_,hperm⟩:=h;have e1:d'.extract 0 d.size=d':=by rw[<- hsz];exact Array.extract_size
 rw[e1,Array.extract_size]at hperm;exact⟨hsz,hperm⟩
section
variable {P:dH} {ρ:Ren} {α:Type} [Inhabited α] {f:α->List aj} {k:Nat}
def NK (f:α->List aj) (k base:Nat) (t:TypeId) (v:aj) (l:List α) (w:Z) (e:eG) (w':Z):Prop:=
 e= .returned (.tuple #[])/\ ∃ l2:List α,l2.Perm l/\w'.ownsRow base t k v l2.length (cellsOf f l2)/\w.grownBy w' v.ownBlock
theorem UT (L:SlLaysF0.n6 P ρ) (hk: ∀ x,(f x).length=k) (h1: ∀ x,∀ v∈f x,v.oneCell'=ae) (aE: ∀ w,(isAgg (ρ.t 24)).run P w= .ok ae w) (zE: ∀ w,(aaR (ρ.t 24)).run P w= .ok k w)
 (cf:α->α->Int) (hO:SWO (ltOf cf)) (g:Nat) (cb:Array aj) (eg: ∀ args w,(callFunc g args).run P w= .ok (.enter g args) w) {w:Z} (hc: ∀ blk off size,CmpLays P g cb f k cf blk off size w)
 {base:Nat} {t:TypeId} {v:aj} {l:List α} (hl:l.length<1000000000) (h:w.ownsRow base t k v l.length (cellsOf f l)):
 aF P (ρ.f 6) #[v,.func (.func g) #[] cb] w (NK f k base t v l w):=by
 rcases Px hk h1 h with ⟨rfl,rfl⟩|⟨b,cap,rfl,hb,hcp,R,S⟩
 ·refine(AnyF.slices_SortFunc_none L J 0 _ w).mono ?_;rintro e w' ⟨rfl,rfl⟩;exact⟨rfl,[],oz _,h,Ig _ _⟩
 ·have hs:=AnyQ.slices_SortFunc L k aE zE f hk h1 cf hO g cb b 0 cap l.toArray w eg (hc _ _ _) R.hH R.hblk bL;rw[show l.toArray.size=l.length from rfl]at hs;refine hs.mono ?_;rintro e w' ⟨rfl,dk,n,os,hp,-,hw⟩;obtain⟨hd,hp2⟩:=abb (d:=l.toArray) hp;have hd2:dk.size=l.length:=hd;have hlen:dk.toList.length=l.length:=by simpa using hd2
  obtain⟨ho,hg⟩:=Ht hk h rfl R hd rfl (show SWK f k w b 0 dk w' from ⟨n,os,hw⟩) dk.size (aC _);refine⟨rfl,dk.toList,by simpa using hp2,?_,hg⟩;rw[hlen];rw[hd2,kS O]at ho;exact ho
end
theorem Py {α:Type} (p q:α->Int) (cf:α->α->Int) (h: ∀ x y,cf x y<0↔(p x<p y\/(p x=p y/\q x<q y))):SWO (ltOf cf):=by
 have h2: ∀ x y,ltOf cf x y=decide (p x<p y\/(p x=p y/\q x<q y)):=λx y=>by unfold ltOf;rw[qm];simp[h]
 refine⟨λx=> ?_,λx y z=> ?_,λx y z=> ?_⟩<;>simp only[h2,dm,Mo]<;>omega
end
section
open Go.Shelf Go.RowKit Go.Lib Go.Sort
def FX {α:Type} [Inhabited α] (P:dH) (g:Nat) (cb:Array aj) (enc:α->List aj) (k:Nat) (p:α->Bool) (ok:α->Prop) (blk off size:Nat) (w0:Z):Prop:=
 ∀ (dk:Array α) (W:Z),dk.size=size->SWK enc k w0 blk off dk W-> ∀ x:α,ok x->aF P g (#[az (enc x).toArray]++cb) W λe w'=>e= .returned (aA (p x))/\iy W w'
def Xp {α:Type} [Inhabited α] (enc:α->List aj) (k:Nat) (p:α->Bool) (w0:Z) (blk off:Nat) (d:Array α) (e:eG) (W:Z):Prop:=
 SWK enc k w0 blk off d W/\((e= .returned (G F (-1))/\ ∀ j,j<d.size->p d[j]! =ag)\/ ∃ k0:Nat,e= bM (G F k0)/\k0<d.size/\ ∀ j,j<k0->p d[j]! =ag)
def Jw {α:Type} [Inhabited α] (p:α->Bool) (d:Array α) (n:Nat) (dk:Array α):Prop:= ∀ t,t<n->dk[t]! ∈d.toList/\p dk[t]! =ag
def VL {α:Type} [Inhabited α] (enc:α->List aj) (k:Nat) (p:α->Bool) (w0:Z) (blk off cap:Nat) (d:Array α) (e:eG) (W:Z):Prop:=
 ∃ (n:Nat) (dk:Array α),e= bM (T (N ⟨blk,off,J⟩) n cap)/\n<=d.size/\dk.size=d.size/\Jw p d n dk/\SWK enc k w0 blk off dk W
theorem C9 {α:Type} [Inhabited α] (d:Array α) (j:Nat) (h:j<d.size):d[j]! ∈d.toList:=by
 rw[gG d j h];simp
structure MP (P:dH) (k:Nat) (zc:Array aj):Prop where
 fi:P.funcs[188]? =N Tryz.f188
 fd:P.funcs[131]? =N Tryz.f131
 t0:P.underlying 0=N (TypeDesc.tuple #[])
 a0: ∀ w,(isAgg 0).run P w= .ok ag w
 z0: ∀ w,(aaR 0).run P w= .ok 1 w
 v0: ∀ w,(zeroValue 0).run P w= .ok (bG #[]) w
 t1:P.underlying 3=N (TypeDesc.int F)
 a1: ∀ w,(isAgg 3).run P w= .ok ag w
 z1: ∀ w,(aaR 3).run P w= .ok 1 w
 v1: ∀ w,(zeroValue 3).run P w= .ok (G F 0) w
 t2:P.underlying 4=N TypeDesc.bool
 a2: ∀ w,(isAgg 4).run P w= .ok ag w
 z2: ∀ w,(aaR 4).run P w= .ok 1 w
 v2: ∀ w,(zeroValue 4).run P w= .ok (aA ag) w
 t4:P.underlying 173=N (TypeDesc.slice 176)
 a4: ∀ w,(isAgg 173).run P w= .ok ag w
 z4: ∀ w,(aaR 173).run P w= .ok 1 w
 v4: ∀ w,(zeroValue 173).run P w= .ok (T J 0 0) w
 t5:P.underlying 226=N (TypeDesc.func #[176] #[4] ag)
 a5: ∀ w,(isAgg 226).run P w= .ok ag w
 z5: ∀ w,(aaR 226).run P w= .ok 1 w
 v5: ∀ w,(zeroValue 226).run P w= .ok Value.nilFunc w
 aE: ∀ w,(isAgg 176).run P w= .ok ae w
 zE: ∀ w,(aaR 176).run P w= .ok k w
 vE: ∀ w,(zeroValue 176).run P w= .ok (az zc) w
section
variable {P:dH} {k:Nat} {zc:Array aj} {α:Type} [Inhabited α] (L:MP P k zc) (enc:α->List aj) (p:α->Bool) (ok:α->Prop) (g:Nat) (cb:Array aj) (blk off cap:Nat) (d0 d:Array α) (w0 w:Z)
theorem afW (L:MP P k zc) (eg: ∀ args w,(callFunc g args).run P w= .ok (.enter g args) w) (hdel:FX P g cb enc k p ok blk off d0.size w0) (hok: ∀ x∈d.toList,ok x) (R:RowK enc k w0 blk off d0) (hs:d0.size=d.size) (S:SWK enc k w0 blk off d w) (hsz:d.size<4611686018427387904):
 aF P 188 #[T (N ⟨blk,off,J⟩) d.size cap,.func (.func g) #[] cb] w (Xp enc k p w0 blk off d):=by
 have t0:=L.t0;have a0:=L.a0;have z0:=L.z0;have v0:=L.v0;have t1:=L.t1;have a1:=L.a1;have z1:=L.z1;have v1:=L.v1;have t2:=L.t2;have a2:=L.a2;have z2:=L.z2;have v2:=L.v2;have t4:=L.t4;have a4:=L.a4;have z4:=L.z4;have v4:=L.v4;have t5:=L.t5;have a5:=L.a5;have z5:=L.z5;have v5:=L.v5;have aE:=L.aE;have zE:=L.zE;have vE:=L.vE;have u4:=kY L.t4;have u1:=kY L.t1;have S0:aU (SWK enc k w0 blk off d w):=S;have HD:aU _:=hdel;have dx:aU _:=hok;clear S hdel hok;go_enter L.fi,Tryz.ntmps188;go_wp2;go_loopg [5,8] d.size (λkx _ s8 wr=> ∃ i:Nat,s8= G F i/\i<=d.size/\d.size - i<=kx/\aU (SWK enc k w0 blk off d wr)/\aU (∀ j,j<i->p d[j]! =ag))
 case atStart=>exact⟨0,rfl,lq _,aC _,S0,λj hj=>absurd hj (Nat.not_lt_zero _)⟩
 case round=>
  clear S0;obtain⟨i,rfl,hin,hkx,S1,HN⟩:=hrel
  by_cases hlt:i<d.size
  ·have hltz:(i:Int)<(d.size:Int):=O;have la:=S1.out.load R hs.symm P i O;have hc:=HD.out d wr hs.symm S1.out d[i]! (dx.out _ (C9 d i hlt));obtain⟨x,hx⟩: ∃ x,aU (d[i]! =x):=⟨_,rfl⟩;rw[hx.out]at la hc
   cases hp:p x with
   |true=>
    rw[hp]at hc;generalize enc x=cI at la hc;go_wp2_with (go_at_fn g;refine hc.mono ?_;rintro e w1 ⟨rfl,hg⟩;have T1:aU (SWK enc k w0 blk off d w1):=SWK.Cy S1.out hg;clear hg);go_ret;exact⟨T1.out,.inr ⟨i,rfl,hlt,HN.out⟩⟩
   |false=>
    rw[hp]at hc;generalize enc x=cI at la hc;have H2:aU (∀ j,j<i+1->p d[j]! =ag):=λj hj=>by
     rcases Bi j i with h|h
     ·exact HN.out j h
     ·rw[show j=i from O,hx.out,hp]
    clear hp;go_wp2_with (go_at_fn g;refine hc.mono ?_;rintro e w1 ⟨rfl,hg⟩;have T1:aU (SWK enc k w0 blk off d w1):=SWK.Cy S1.out hg;clear hg);go_roundg (d.size - (i+1))
    case measure=>omega
    case rel=>exact⟨i+1,by go_num,O,aC _,T1,H2⟩
  ·have hltz: ¬ (i:Int)<(d.size:Int):=O;have H3:aU (∀ j,j<d.size->p d[j]! =ag):=λj hj=>HN.out j O
   go_wp2;go_ret;exact⟨S1.out,.inl ⟨rfl,H3.out⟩⟩
theorem afV (L:MP P k zc) (eg: ∀ args w,(callFunc g args).run P w= .ok (.enter g args) w) (hdel:FX P g cb enc k p ok blk off d0.size w0) (hok: ∀ x∈d.toList,ok x) (R:RowK enc k w0 blk off d0) (hs:d0.size=d.size) (S:SWK enc k w0 blk off d w) (hsz:d.size<4611686018427387904) (hcap:d.size<=cap) (zr:α) (CX:enc zr=zc.toList):
 aF P 131 #[T (N ⟨blk,off,J⟩) d.size cap,.func (.func g) #[] cb] w (VL enc k p w0 blk off cap d):=by
 have t0:=L.t0;have a0:=L.a0;have z0:=L.z0;have v0:=L.v0;have t1:=L.t1;have a1:=L.a1;have z1:=L.z1;have v1:=L.v1;have t2:=L.t2;have a2:=L.a2;have z2:=L.z2;have v2:=L.v2;have t4:=L.t4;have a4:=L.a4;have z4:=L.z4;have v4:=L.v4;have t5:=L.t5;have a5:=L.a5;have z5:=L.z5;have v5:=L.v5;have aE:=L.aE;have zE:=L.zE;have vE:=L.vE;have u4:=kY L.t4;have u1:=kY L.t1;have es: ∀ args w,(callFunc 188 args).run P w= .ok (.enter 188 args) w:=enters_of L.fi ai rfl;have hix:=afW enc p ok g cb blk off cap d0 d w0 w L eg hdel hok R hs S hsz;have HD:aU _:=hdel;have dx:aU _:=hok;clear S hdel hok;go_enter L.fd,Tryz.ntmps131;go_wp2_with (go_at_fn 188;refine hix.mono ?_;rintro e w1 ⟨T1,⟨rfl,hall⟩|⟨k0,rfl,hk0,hall⟩⟩)
 all_goals have T2:aU (SWK enc k w0 blk off d w1):=T1
 all_goals have HA:aU _:=hall
 all_goals clear T1 hall
 ·go_ret;exact⟨d.size,d,rfl,aC _,rfl,λt ht=>⟨C9 d t ht,HA.out t ht⟩,T2.out⟩
 ·have hne1:((k0:Int)== -1)=ag:=VE.2 O;go_wp2;go_loopg [5,6,7] d.size (λkx s5 s6 _ wr=> ∃ (i j:Nat) (dk:Array α),s5= G F i/\s6= G F j/\i<j/\j<=d.size/\d.size - j<=kx/\dk.size=d.size/\aU (Jw p d i dk)/\aU (∀ t,j<=t->t<d.size->dk[t]! =d[t]!)/\aU (SWK enc k w0 blk off dk wr))
  case atStart=>exact⟨k0,k0+1,d,rfl,by go_num,O,O,O,rfl,λt ht=>⟨C9 d t O,HA.out t ht⟩,λ_ _ _=>rfl,T2⟩
  case round=>
   clear T2 HA;obtain⟨i,j,dk,rfl,rfl,hij,hjd,hkx,hds,HL,HT,S1⟩:=hrel
   by_cases hlt:j<d.size
   ·have hltz:(j:Int)<(d.size:Int):=O;have la:=S1.out.load R O P j O;obtain⟨x,hx⟩: ∃ x,aU (dk[j]! =x):=⟨_,rfl⟩;rw[hx.out]at la;have hmem:aU (x∈d.toList):=by
     have:=HT.out j (aC _) hlt;rw[<- hx.out,this];exact C9 d j hlt
    have hl:(enc x).length=k:=R.hk x;have hB:au (wr.alloc (U (enc x).toArray 176)) wr.heap.size 176 (enc x).toArray:=au.new wr _ _;have hst:Sem.run P (storeCells ⟨wr.heap.size,0,J⟩ (enc x) 0) (wr.alloc (U zc 176))= .ok () (wr.alloc (U (enc x).toArray 176)):=by
     have hzs:zc.size=k:=by rw[<- R.hk zr,CX];simp
     exact X6 P wr (enc x) zc 176 (by rw[hl,hzs]) (R.h1 x)
    have hc:=HD.out dk (wr.alloc (U (enc x).toArray 176)) O (S1.out.alloc _) x (dx.out x hmem.out);have S3:aU (SWK enc k w0 blk off dk (wr.alloc (U (enc x).toArray 176))):=S1.out.alloc _;have lb:=NT (k:=k) P (wr.alloc (U (enc x).toArray 176)) wr.heap.size (enc x) 176 hl hB;have ES:=I (rfl:enc x=enc x)
    cases hp:p x with
    |true=>
     rw[hp]at hc;clear hB hp ES;generalize enc x=cI at*;go_wp2_with (go_at_fn g;refine hc.mono ?_;rintro e w1 ⟨rfl,hg⟩;have T1:aU (SWK enc k w0 blk off dk w1):=SWK.Cy S3.out hg;clear hg);go_roundg (d.size - (j+1))
     case measure=>omega
     case rel=>exact⟨i,j+1,dk,rfl,by go_num,O,O,aC _,hds,HL,λt h1 h2=>HT.out t O h2,T1⟩
    |false=>
     rw[hp]at hc;have Hp:aU (p x=ag):=hp;have E1:aU (∀ w1,iy (wr.alloc (U (enc x).toArray 176)) w1->Sem.run P (loadCellsFrom ⟨wr.heap.size,0,J⟩ 0 k #[]) w1= .ok (enc x).toArray w1/\Sem.run P (storeCells ⟨blk,off+i*k,J⟩ (enc x) 0) w1= .ok () (w1.setCells blk (off+i*k) (enc x))/\SWK enc k w0 blk off (dk.setIfInBounds i x) (w1.setCells blk (off+i*k) (enc x))):=by
      intro w1 hg;have S4:=SWK.Cy S3.out hg;refine⟨NT P w1 _ (enc x) 176 hl (hg.keeps hB),SWK.U5 S4 R O P (i*k) (enc x) (by rw[hl];exact rowK_bnd dk k i O) (R.h1 x),SWK.put S4 R O i O x⟩
     clear hB hp ES S3;generalize enc x=cI at*;go_wp2_with (go_at_fn g;refine hc.mono ?_;rintro e w1 ⟨rfl,hg⟩;obtain⟨l1,l2,T1⟩:=E1.out w1 hg;replace T1:aU _:=T1;clear hg hc hst lb la);go_roundg (d.size - (j+1))
     case measure=>omega
     case rel=>
      refine⟨i+1,j+1,dk.setIfInBounds i x,by go_num,by go_num,O,O,aC _,by simp[hds],?_,?_,T1⟩
      ·intro t ht
       by_cases h:t=i
       ·subst h;have e:(dk.setIfInBounds t x)[t]! =x:=by rw[gG _ _ bL];simp
        rw[e];exact⟨hmem.out,Hp.out⟩
       ·have e:(dk.setIfInBounds i x)[t]! =dk[t]! :=by rw[gG _ _ bL,gG _ _ O,Iy,bE (pK h)]
        rw[e];exact HL.out t O
      ·intro t h1 h2;have e:(dk.setIfInBounds i x)[t]! =dk[t]! :=by rw[gG _ _ bL,gG _ _ O,Iy,bE O]
       rw[e];exact HT.out t O h2
   ·have hltz: ¬ (j:Int)<(d.size:Int):=O;obtain rfl:j=d.size:=O;have hcl: ∀ ty c,(Builtin.clear_ #[173] ty #[T (N ⟨blk,off+i*k,J⟩) (d.size - i) c]).run P wr= .ok (.tuple #[]) (wr.setCells blk (off+i*k) (lX zc (d.size - i)).toList):=λty c=>by
     have:=SWK.Yp S1.out R O P i O zr zc CX 173 176 ty c L.t4 L.vE
     rwa [hds]at this
    have S5:aU (SWK enc k w0 blk off ((wW dk.size).map λt=>if t<i then dk[t]! else zr) (wr.setCells blk (off+i*k) (lX zc (d.size - i)).toList)):=by
     have:=SWK.zero S1.out R O i O zr zc CX
     rwa [hds]at this |-
    have HL2:aU (Jw p d i ((wW dk.size).map λt=>if t<i then dk[t]! else zr)):=by
     intro t ht;have e:((wW dk.size).map λt=>if t<i then dk[t]! else zr)[t]! =dk[t]! :=by
      rw[gG _ _ bL];simp[ht]
     rw[e];exact HL.out t ht
    have hz2:((wW dk.size).map λt=>if t<i then dk[t]! else zr).size=d.size:=by simp[hds]
    have hhi:i<=d.size:=O;generalize ((wW dk.size).map λt=>if t<i then dk[t]! else zr)=d2 at*;generalize wr.setCells blk (off+i*k) (lX zc (d.size - i)).toList=w2 at*;clear S1 HL HT;go_wp2;go_ret;exact⟨i,d2,aL,hhi,hz2,HL2.out,S5.out⟩
end
theorem afT:MP ak 8 #[G F 0,G F 0,G F 0,G F 0,G F 0,G F 0,G F 0,G F 0]:=by
 refine⟨Tryz.func188,Tryz.func131,Tryz.underlying0,Tryz.isAgg0,Tryz.sizeOf0,Tryz.zeroValue0,dh,Tryz.isAgg3,Tryz.sizeOf3,Tryz.zeroValue3,iX,Tryz.isAgg4,Tryz.sizeOf4,Tryz.zeroValue4,Tryz.underlying173,Tryz.isAgg173,Tryz.sizeOf173,Tryz.zeroValue173,
  Tryz.underlying226,Tryz.isAgg226,Tryz.sizeOf226,Tryz.zeroValue226,Tryz.isAgg176,Tryz.sizeOf176,Tryz.zeroValue176⟩
end
section
open Go.Shelf Go.RowKit Go.Lib Go.Sort
structure MQ (P:dH) (k:Nat) (zc:Array aj):Prop where
 fi:P.funcs[87]? =N Tryz.f87
 fd:P.funcs[47]? =N Tryz.f47
 t0:P.underlying 0=N (TypeDesc.tuple #[])
 a0: ∀ w,(isAgg 0).run P w= .ok ag w
 z0: ∀ w,(aaR 0).run P w= .ok 1 w
 v0: ∀ w,(zeroValue 0).run P w= .ok (bG #[]) w
 t1:P.underlying 3=N (TypeDesc.int F)
 a1: ∀ w,(isAgg 3).run P w= .ok ag w
 z1: ∀ w,(aaR 3).run P w= .ok 1 w
 v1: ∀ w,(zeroValue 3).run P w= .ok (G F 0) w
 t2:P.underlying 4=N TypeDesc.bool
 a2: ∀ w,(isAgg 4).run P w= .ok ag w
 z2: ∀ w,(aaR 4).run P w= .ok 1 w
 v2: ∀ w,(zeroValue 4).run P w= .ok (aA ag) w
 t4:P.underlying 54=N (TypeDesc.slice 70)
 a4: ∀ w,(isAgg 54).run P w= .ok ag w
 z4: ∀ w,(aaR 54).run P w= .ok 1 w
 v4: ∀ w,(zeroValue 54).run P w= .ok (T J 0 0) w
 t5:P.underlying 129=N (TypeDesc.func #[70] #[4] ag)
 a5: ∀ w,(isAgg 129).run P w= .ok ag w
 z5: ∀ w,(aaR 129).run P w= .ok 1 w
 v5: ∀ w,(zeroValue 129).run P w= .ok Value.nilFunc w
 aE: ∀ w,(isAgg 70).run P w= .ok ae w
 zE: ∀ w,(aaR 70).run P w= .ok k w
 vE: ∀ w,(zeroValue 70).run P w= .ok (az zc) w
section
variable {P:dH} {k:Nat} {zc:Array aj} {α:Type} [Inhabited α] (L:MQ P k zc) (enc:α->List aj) (p:α->Bool) (ok:α->Prop) (g:Nat) (cb:Array aj) (blk off cap:Nat) (d0 d:Array α) (w0 w:Z)
theorem af0 (L:MQ P k zc) (eg: ∀ args w,(callFunc g args).run P w= .ok (.enter g args) w) (hdel:FX P g cb enc k p ok blk off d0.size w0) (hok: ∀ x∈d.toList,ok x) (R:RowK enc k w0 blk off d0) (hs:d0.size=d.size) (S:SWK enc k w0 blk off d w) (hsz:d.size<4611686018427387904):
 aF P 87 #[T (N ⟨blk,off,J⟩) d.size cap,.func (.func g) #[] cb] w (Xp enc k p w0 blk off d):=by
 have t0:=L.t0;have a0:=L.a0;have z0:=L.z0;have v0:=L.v0;have t1:=L.t1;have a1:=L.a1;have z1:=L.z1;have v1:=L.v1;have t2:=L.t2;have a2:=L.a2;have z2:=L.z2;have v2:=L.v2;have t4:=L.t4;have a4:=L.a4;have z4:=L.z4;have v4:=L.v4;have t5:=L.t5;have a5:=L.a5;have z5:=L.z5;have v5:=L.v5;have aE:=L.aE;have zE:=L.zE;have vE:=L.vE;have u4:=kY L.t4;have u1:=kY L.t1;have S0:aU (SWK enc k w0 blk off d w):=S;have HD:aU _:=hdel;have dx:aU _:=hok;clear S hdel hok;go_enter L.fi,Tryz.ntmps87;go_wp2;go_loopg [5,8] d.size (λkx _ s8 wr=> ∃ i:Nat,s8= G F i/\i<=d.size/\d.size - i<=kx/\aU (SWK enc k w0 blk off d wr)/\aU (∀ j,j<i->p d[j]! =ag))
 case atStart=>exact⟨0,rfl,lq _,aC _,S0,λj hj=>absurd hj (Nat.not_lt_zero _)⟩
 case round=>
  clear S0;obtain⟨i,rfl,hin,hkx,S1,HN⟩:=hrel
  by_cases hlt:i<d.size
  ·have hltz:(i:Int)<(d.size:Int):=O;have la:=S1.out.load R hs.symm P i O;have hc:=HD.out d wr hs.symm S1.out d[i]! (dx.out _ (C9 d i hlt));obtain⟨x,hx⟩: ∃ x,aU (d[i]! =x):=⟨_,rfl⟩;rw[hx.out]at la hc
   cases hp:p x with
   |true=>
    rw[hp]at hc;generalize enc x=cI at la hc;go_wp2_with (go_at_fn g;refine hc.mono ?_;rintro e w1 ⟨rfl,hg⟩;have T1:aU (SWK enc k w0 blk off d w1):=SWK.Cy S1.out hg;clear hg);go_ret;exact⟨T1.out,.inr ⟨i,rfl,hlt,HN.out⟩⟩
   |false=>
    rw[hp]at hc;generalize enc x=cI at la hc;have H2:aU (∀ j,j<i+1->p d[j]! =ag):=λj hj=>by
     rcases Bi j i with h|h
     ·exact HN.out j h
     ·rw[show j=i from O,hx.out,hp]
    clear hp;go_wp2_with (go_at_fn g;refine hc.mono ?_;rintro e w1 ⟨rfl,hg⟩;have T1:aU (SWK enc k w0 blk off d w1):=SWK.Cy S1.out hg;clear hg);go_roundg (d.size - (i+1))
    case measure=>omega
    case rel=>exact⟨i+1,by go_num,O,aC _,T1,H2⟩
  ·have hltz: ¬ (i:Int)<(d.size:Int):=O;have H3:aU (∀ j,j<d.size->p d[j]! =ag):=λj hj=>HN.out j O
   go_wp2;go_ret;exact⟨S1.out,.inl ⟨rfl,H3.out⟩⟩
theorem afZ (L:MQ P k zc) (eg: ∀ args w,(callFunc g args).run P w= .ok (.enter g args) w) (hdel:FX P g cb enc k p ok blk off d0.size w0) (hok: ∀ x∈d.toList,ok x) (R:RowK enc k w0 blk off d0) (hs:d0.size=d.size) (S:SWK enc k w0 blk off d w) (hsz:d.size<4611686018427387904) (hcap:d.size<=cap) (zr:α) (CX:enc zr=zc.toList):
 aF P 47 #[T (N ⟨blk,off,J⟩) d.size cap,.func (.func g) #[] cb] w (VL enc k p w0 blk off cap d):=by
 have t0:=L.t0;have a0:=L.a0;have z0:=L.z0;have v0:=L.v0;have t1:=L.t1;have a1:=L.a1;have z1:=L.z1;have v1:=L.v1;have t2:=L.t2;have a2:=L.a2;have z2:=L.z2;have v2:=L.v2;have t4:=L.t4;have a4:=L.a4;have z4:=L.z4;have v4:=L.v4;have t5:=L.t5;have a5:=L.a5;have z5:=L.z5;have v5:=L.v5;have aE:=L.aE;have zE:=L.zE;have vE:=L.vE;have u4:=kY L.t4;have u1:=kY L.t1;have es: ∀ args w,(callFunc 87 args).run P w= .ok (.enter 87 args) w:=enters_of L.fi ai rfl;have hix:=af0 enc p ok g cb blk off cap d0 d w0 w L eg hdel hok R hs S hsz;have HD:aU _:=hdel;have dx:aU _:=hok;clear S hdel hok;go_enter L.fd,Tryz.ntmps47;go_wp2_with (go_at_fn 87;refine hix.mono ?_;rintro e w1 ⟨T1,⟨rfl,hall⟩|⟨k0,rfl,hk0,hall⟩⟩)
 all_goals have T2:aU (SWK enc k w0 blk off d w1):=T1
 all_goals have HA:aU _:=hall
 all_goals clear T1 hall
 ·go_ret;exact⟨d.size,d,rfl,aC _,rfl,λt ht=>⟨C9 d t ht,HA.out t ht⟩,T2.out⟩
 ·have hne1:((k0:Int)== -1)=ag:=VE.2 O;go_wp2;go_loopg [5,6,7] d.size (λkx s5 s6 _ wr=> ∃ (i j:Nat) (dk:Array α),s5= G F i/\s6= G F j/\i<j/\j<=d.size/\d.size - j<=kx/\dk.size=d.size/\aU (Jw p d i dk)/\aU (∀ t,j<=t->t<d.size->dk[t]! =d[t]!)/\aU (SWK enc k w0 blk off dk wr))
  case atStart=>exact⟨k0,k0+1,d,rfl,by go_num,O,O,O,rfl,λt ht=>⟨C9 d t O,HA.out t ht⟩,λ_ _ _=>rfl,T2⟩
  case round=>
   clear T2 HA;obtain⟨i,j,dk,rfl,rfl,hij,hjd,hkx,hds,HL,HT,S1⟩:=hrel
   by_cases hlt:j<d.size
   ·have hltz:(j:Int)<(d.size:Int):=O;have la:=S1.out.load R O P j O;obtain⟨x,hx⟩: ∃ x,aU (dk[j]! =x):=⟨_,rfl⟩;rw[hx.out]at la;have hmem:aU (x∈d.toList):=by
     have:=HT.out j (aC _) hlt;rw[<- hx.out,this];exact C9 d j hlt
    have hl:(enc x).length=k:=R.hk x;have hB:au (wr.alloc (U (enc x).toArray 70)) wr.heap.size 70 (enc x).toArray:=au.new wr _ _;have hst:Sem.run P (storeCells ⟨wr.heap.size,0,J⟩ (enc x) 0) (wr.alloc (U zc 70))= .ok () (wr.alloc (U (enc x).toArray 70)):=by
     have hzs:zc.size=k:=by rw[<- R.hk zr,CX];simp
     exact X6 P wr (enc x) zc 70 (by rw[hl,hzs]) (R.h1 x)
    have hc:=HD.out dk (wr.alloc (U (enc x).toArray 70)) O (S1.out.alloc _) x (dx.out x hmem.out);have S3:aU (SWK enc k w0 blk off dk (wr.alloc (U (enc x).toArray 70))):=S1.out.alloc _;have lb:=NT (k:=k) P (wr.alloc (U (enc x).toArray 70)) wr.heap.size (enc x) 70 hl hB;have ES:=I (rfl:enc x=enc x)
    cases hp:p x with
    |true=>
     rw[hp]at hc;clear hB hp ES;generalize enc x=cI at*;go_wp2_with (go_at_fn g;refine hc.mono ?_;rintro e w1 ⟨rfl,hg⟩;have T1:aU (SWK enc k w0 blk off dk w1):=SWK.Cy S3.out hg;clear hg);go_roundg (d.size - (j+1))
     case measure=>omega
     case rel=>exact⟨i,j+1,dk,rfl,by go_num,O,O,aC _,hds,HL,λt h1 h2=>HT.out t O h2,T1⟩
    |false=>
     rw[hp]at hc;have Hp:aU (p x=ag):=hp;have E1:aU (∀ w1,iy (wr.alloc (U (enc x).toArray 70)) w1->Sem.run P (loadCellsFrom ⟨wr.heap.size,0,J⟩ 0 k #[]) w1= .ok (enc x).toArray w1/\Sem.run P (storeCells ⟨blk,off+i*k,J⟩ (enc x) 0) w1= .ok () (w1.setCells blk (off+i*k) (enc x))/\SWK enc k w0 blk off (dk.setIfInBounds i x) (w1.setCells blk (off+i*k) (enc x))):=by
      intro w1 hg;have S4:=SWK.Cy S3.out hg;refine⟨NT P w1 _ (enc x) 70 hl (hg.keeps hB),SWK.U5 S4 R O P (i*k) (enc x) (by rw[hl];exact rowK_bnd dk k i O) (R.h1 x),SWK.put S4 R O i O x⟩
     clear hB hp ES S3;generalize enc x=cI at*;go_wp2_with (go_at_fn g;refine hc.mono ?_;rintro e w1 ⟨rfl,hg⟩;obtain⟨l1,l2,T1⟩:=E1.out w1 hg;replace T1:aU _:=T1;clear hg hc hst lb la);go_roundg (d.size - (j+1))
     case measure=>omega
     case rel=>
      refine⟨i+1,j+1,dk.setIfInBounds i x,by go_num,by go_num,O,O,aC _,by simp[hds],?_,?_,T1⟩
      ·intro t ht
       by_cases h:t=i
       ·subst h;have e:(dk.setIfInBounds t x)[t]! =x:=by rw[gG _ _ bL];simp
        rw[e];exact⟨hmem.out,Hp.out⟩
       ·have e:(dk.setIfInBounds i x)[t]! =dk[t]! :=by rw[gG _ _ bL,gG _ _ O,Iy,bE (pK h)]
        rw[e];exact HL.out t O
      ·intro t h1 h2;have e:(dk.setIfInBounds i x)[t]! =dk[t]! :=by rw[gG _ _ bL,gG _ _ O,Iy,bE O]
       rw[e];exact HT.out t O h2
   ·have hltz: ¬ (j:Int)<(d.size:Int):=O;obtain rfl:j=d.size:=O;have hcl: ∀ ty c,(Builtin.clear_ #[54] ty #[T (N ⟨blk,off+i*k,J⟩) (d.size - i) c]).run P wr= .ok (.tuple #[]) (wr.setCells blk (off+i*k) (lX zc (d.size - i)).toList):=λty c=>by
     have:=SWK.Yp S1.out R O P i O zr zc CX 54 70 ty c L.t4 L.vE
     rwa [hds]at this
    have S5:aU (SWK enc k w0 blk off ((wW dk.size).map λt=>if t<i then dk[t]! else zr) (wr.setCells blk (off+i*k) (lX zc (d.size - i)).toList)):=by
     have:=SWK.zero S1.out R O i O zr zc CX
     rwa [hds]at this |-
    have HL2:aU (Jw p d i ((wW dk.size).map λt=>if t<i then dk[t]! else zr)):=by
     intro t ht;have e:((wW dk.size).map λt=>if t<i then dk[t]! else zr)[t]! =dk[t]! :=by
      rw[gG _ _ bL];simp[ht]
     rw[e];exact HL.out t ht
    have hz2:((wW dk.size).map λt=>if t<i then dk[t]! else zr).size=d.size:=by simp[hds]
    have hhi:i<=d.size:=O;generalize ((wW dk.size).map λt=>if t<i then dk[t]! else zr)=d2 at*;generalize wr.setCells blk (off+i*k) (lX zc (d.size - i)).toList=w2 at*;clear S1 HL HT;go_wp2;go_ret;exact⟨i,d2,aL,hhi,hz2,HL2.out,S5.out⟩
end
theorem afU:MQ ak 2 #[G F 0,G F 0]:=by
 refine⟨Tryz.func87,Tryz.func47,Tryz.underlying0,Tryz.isAgg0,Tryz.sizeOf0,Tryz.zeroValue0,dh,Tryz.isAgg3,Tryz.sizeOf3,Tryz.zeroValue3,iX,Tryz.isAgg4,Tryz.sizeOf4,Tryz.zeroValue4,FD,Tryz.isAgg54,Tryz.sizeOf54,Tryz.zeroValue54,
  Tryz.underlying129,Tryz.isAgg129,Tryz.sizeOf129,Tryz.zeroValue129,Tryz.isAgg70,Tryz.sizeOf70,Tryz.zeroValue70⟩
end
section
open Go.Shelf Go.RowKit Go.Lib Go.Sort
def RV (w:Z) (e:eG) (w':Z):Prop:=e= bM (.tuple #[])/\w'=w
theorem akF (g:Nat) (w:Z):aF ak 270 #[T J 0 0,G F 0,G F 0,.func (.func g) #[] #[]] w (RV w):=by
 go_enter Tryz.func270,Tryz.ntmps270;go_wp2;go_loopg [8] 0 (λkx s8 wr=>s8= G F 1/\wr=w)
 case atStart=>exact⟨by go_num,rfl⟩
 case round=>
  obtain⟨rfl,rfl⟩:=hrel;go_wp2;go_end0;exact⟨rfl,rfl⟩
theorem akH (g:Nat) (w:Z):aF ak 241 #[T J 0 0,G F 0,.func (.func g) #[] #[]] w (RV w):=by
 have hi:=akF g w;go_enter Tryz.func241,Tryz.ntmps241;go_wp2;go_loopg [7,8] 0 (λkx s7 s8 wr=>s7= G F 0/\s8= G F 20/\wr=w)
 case atStart=>exact⟨rfl,rfl,rfl⟩
 case round=>
  obtain⟨rfl,rfl,hw⟩:=hrel;obtain rfl:w=wr:=hw.symm;go_wp2_with (go_at_call 270;refine hi.mono ?_;rintro e w1 ⟨rfl,hw2⟩;obtain rfl:w=w1:=hw2.symm);go_loopg [6,7,8,9] 0 (λkx s6 _ _ _ wr=>s6= G F 20/\wr=w)
  case atStart=>exact⟨rfl,rfl⟩
  case round=>
   obtain⟨rfl,rfl⟩:=hrel;go_wp2;go_end0;exact⟨rfl,rfl⟩
theorem akG (g:Nat) (w:Z):aF ak 189 #[T J 0 0,.func (.func g) #[] #[]] w (RV w):=by
 have hi:=akH g w;go_enter Tryz.func189,Tryz.ntmps189;go_wp2_with (go_at_call 241;refine hi.mono ?_;rintro e w1 ⟨rfl,rfl⟩);go_end0;exact⟨rfl,rfl⟩
theorem alU: ∀ args w,(callFunc 190 args).run ak w= .ok (.enter 190 args) w:=enters_of Tryz.func190 ai rfl
theorem alS (blk off size:Nat) (w:Z):CmpLays ak 190 #[] bW.cells 8 JM blk off size w:=by
 intro m os dk hs x y;have h:=alX x y (sortWorldK bW.cells 8 w blk off m dk os)
 simpa [iy] using h
theorem alV {w:Z} {base:Nat} {v:aj} {l:List bW} (hl:l.length<1000000000) (h:w.ownsRow base 176 8 v l.length (cellsOf bW.cells l)):
 aF ak 189 #[v,.func (.func 190) #[] #[]] w
  (λe w'=>e= .returned (.tuple #[])/\ ∃ l2:List bW,l2.Perm l/\w'.ownsRow base 176 8 v l2.length (cellsOf bW.cells l2)/\w.grownBy w' v.ownBlock):=by
 rcases Px bW.len bW.one h with ⟨rfl,rfl⟩|⟨g,cap,rfl,hb,hc,R,S⟩
 ·refine(akG _ w).mono ?_;rintro e w' ⟨rfl,rfl⟩;exact⟨rfl,[],oz _,h,Ig _ _⟩
 ·have hs:=aok (k:=8) bW.cells JM 190 #[] g 0 cap l.toArray l.toArray w w stF alU (alS g 0 _ w) R rfl S (by simpa using hl);rw[show l.toArray.size=l.length from rfl]at hs;refine hs.mono ?_;rintro e w' ⟨rfl,dk,hd,hp,hS⟩;have hd2:dk.size=l.length:=hd;have hlen:dk.toList.length=l.length:=by simpa using hd2
  obtain⟨ho,hg⟩:=Ht bW.len h rfl R hd rfl hS dk.size (aC _);refine⟨rfl,dk.toList,by simpa using hp,?_,hg⟩;rw[hlen];rw[hd2,kS O]at ho;exact ho
end
def Ci (a b:aI):Int:=sw [fO a.date b.date,fO a.id b.id]
theorem ags (x y:aI) (w:Z):aF ak 36 #[az x.cells.toArray,az y.cells.toArray] w (λe w'=>e= .returned (G F (Ci x y))/\iy w w'):=by
 have HCM:Hid (Ci x y=sw [fO x.date y.date,fO x.id y.id]):=I rfl;generalize Ci x y=R at*;obtain⟨a0,a1,a2,a3,a4,a5,⟨l6,A6,c6⟩⟩:=x;obtain⟨b0,b1,b2,b3,b4,b5,⟨m6,B6,d6⟩⟩:=y;unfold aI.cells;dsimp only[Sl.val]at*;generalize l6.length=n6 at*;generalize m6.length=k6 at*;have hA:=(au.new w 107 #[G F a0,G F a1,G F a2,G F a3,G F a4,av a5,T A6 n6 c6]).alloc (U #[G F b0,G F b1,G F b2,G F b3,G F b4,av b5,T B6 k6 d6] 107);have hB:=eT w (U #[G F a0,G F a1,G F a2,G F a3,G F a4,av a5,T A6 n6 c6] 107) 107 #[G F b0,G F b1,G F b2,G F b3,G F b4,av b5,T B6 k6 d6];have HG:Hid (iy w ((w.alloc (U #[G F a0,G F a1,G F a2,G F a3,G F a4,av a5,T A6 n6 c6] 107)).alloc (U #[G F b0,G F b1,G F b2,G F b3,G F b4,av b5,T B6 k6 d6] 107)).drew):=I (((iy.refl w).alloc _).alloc _).drew;go_enter Tryz.func36,Tryz.ntmps36;go_upto_region 1 with fail
 generalize (w.alloc (U #[G F a0,G F a1,G F a2,G F a3,G F a4,av a5,T A6 n6 c6] 107)).alloc (U #[G F b0,G F b1,G F b2,G F b3,G F b4,av b5,T B6 k6 d6] 107)=W at*;obtain⟨S,hS⟩: ∃ S:Z->Prop,S=λw'=>iy w w'/\(au w' w.heap.size 107 #[G F a0,G F a1,G F a2,G F a3,G F a4,av a5,T A6 n6 c6]/\au w' (w.heap.size+1) 107 #[G F b0,G F b1,G F b2,G F b3,G F b4,av b5,T B6 k6 d6]):=⟨_,rfl⟩
 have aR:Hid (∀ w':Z,(iy w w'/\(au w' w.heap.size 107 #[G F a0,G F a1,G F a2,G F a3,G F a4,av a5,T A6 n6 c6]/\au w' (w.heap.size+1) 107 #[G F b0,G F b1,G F b2,G F b3,G F b4,av b5,T B6 k6 d6]))↔S w'):=I (λw'=>by rw[hS]);clear hS;have hC: ∃ d:aK S,W.drew=d.now:=aK.of ((aR.out _).1 ⟨HG.out,hA.drew,hB.drew⟩);haveI:Nonempty (aK S):=by obtain⟨d,_⟩:=hC;exact⟨d⟩
 have p0: ∀ d:aK S,d.now.cell? ⟨w.heap.size,0,J⟩=N (G F a0):=λd=>((aR.out _).2 d.is).2.1.cell 0
 have p2: ∀ d:aK S,d.now.cell? ⟨w.heap.size,2,J⟩=N (G F a2):=λd=>((aR.out _).2 d.is).2.1.cell 2
 have q0: ∀ d:aK S,d.now.cell? ⟨w.heap.size+1,0,J⟩=N (G F b0):=λd=>((aR.out _).2 d.is).2.2.cell 0
 have q2: ∀ d:aK S,d.now.cell? ⟨w.heap.size+1,2,J⟩=N (G F b2):=λd=>((aR.out _).2 d.is).2.2.cell 2
 clear hA hB HG;refine nK (n:=13) S 12 ai rfl ?_;have hT:=tg 0;(iterate 4 refine aab hT hC ?_;clear hT;intro hT K hK;go_big_quiet_op;go_big_quiet_on);clear hT;have hT:=tg 5;(iterate 4 refine aab hT hC ?_;clear hT;intro hT K hK;go_big_quiet_op;go_big_quiet_on);clear hT;generalize W.drew=W1 at*;clear p0 p2 q0 q2;refine dw (i:=4) ai rfl rfl ?_;intro K hK;go_simp;go_at_call 38;refine(Cj _ _ _).mono ?_;rintro e w5 ⟨rfl,rfl⟩
 (try go_wp2_with fail)
 refine hK _ _ (.inr (.inr hC)) ?_;clear hK K
 (try simp only[Zx])
 refine dw (i:=9) ai rfl rfl ?_;intro K hK;go_simp;go_at_call 38;refine(Cj _ _ _).mono ?_;rintro e w5 ⟨rfl,rfl⟩
 (try go_wp2_with fail)
 refine hK _ _ (.inr (.inr hC)) ?_;clear hK K
 (try simp only[Zx])
 refine dw (i:=10) ai rfl rfl ?_;intro K hK;go_simp;have hC2: ∃ d:aK S,W1.alloc (U #[G F (fO a2 b2),G F (fO a0 b0)] 3)=d.now:=aK.of ((aR.out _).1 ⟨((aR.out _).2 (aK.un hC)).1.alloc _,((aR.out _).2 (aK.un hC)).2.1.alloc _,((aR.out _).2 (aK.un hC)).2.2.alloc _⟩);refine hK _ _ (.inr (.inr hC2)) ?_;clear hK K;have oZ:=I (aa3 [fO a2 b2,fO a0 b0] _ 2 (W1.alloc (U #[G F (fO a2 b2),G F (fO a0 b0)] 3)) (Rd.uT (au.new W1 3 _) rfl rfl) aL)
 (try simp only[Zx])
 refine dw (i:=11) ai rfl rfl ?_;intro K hK;go_simp;go_at_call 37;refine(oZ.out).mono ?_;rintro e w5 ⟨rfl,rfl⟩
 (try go_wp2_with fail)
 refine hK _ _ (.inr (.inr hC2)) ?_;clear hK K
 (try simp only[Zx])
 refine dw (i:=12) ai rfl rfl ?_;intro K hK;go_simp;refine hK _ _ (.inr (.inl rfl)) ?_;clear hK K
 (try simp only[Zx])
 refine kH ai ?_ _;go_wp2_with fail;go_ret;exact⟨jg HCM.out.symm,((aR.out _).2 (aK.un hC2)).1⟩
def ED:Array aj:= #[G F 0,G F 0,G F 0,G F 0,G F 0,G F 0,G F 0,G F 0,
 G F 2,G F 3,G F 0,G F 0,G F 5,G F 5,G F 0,G F 0,
 G F 0,G F 4,G F 1,G F 0,G F 5,G F 5,G F 0,G F 0,
 G F 4,G F 0,G F 0,G F 1,G F 5,G F 5,G F 0,G F 0,
 G F 0,G F 0,G F 3,G F 2,G F 5,G F 5,G F 0,G F 0,
 G F 0,G F 0,G F 0,G F 0,G F 0,G F 0,G F 1,G F 1]
def JQ:Array aj:=kZ 48 (G F 0)
section
variable (w:Z)
theorem Su (s:Int) (h:1<=s/\s<=5):aF ak 30 #[G F s] w (λe w'=>e= bM (aA ae)/\w'=w):=by
 obtain⟨h1,h2⟩:=h;have d1:decide (1<=s)=ae:=kK h1;have d2:decide (s<=5)=ae:=kK h2;go_enter Tryz.func30,Tryz.ntmps30;go_wp2;go_ret;exact⟨rfl,rfl⟩
theorem Yx:aF ak 65 #[] w (λe w'=>e= .returned (az ED)/\Below w.heap.size w w'):=by
 have HZ:=I (au.new w 152 JQ);have hb:=I ((aD w.heap.size w).alloc (aC _) (U JQ 152));go_enter Tryz.func65,Tryz.ntmps65;go_upto_region 1 with fail
 change Code.wp _ _ _ _ (w.alloc (U JQ 152))
 generalize hW:w.alloc (U JQ 152)=W at*;go_wp2_with (first
  |(refine jP rfl 1 rfl 150 _ rfl #[G F 2,G F 3] [(0,G F 2),(1,G F 3)] rfl ai ?_)
  |(refine jP rfl 2 rfl 150 _ rfl #[G F 0,G F 0] [(0,G F 0),(1,G F 0)] rfl ai ?_)
  |(refine jP rfl 3 rfl 150 _ rfl #[G F 5,G F 5] [(0,G F 5),(1,G F 5)] rfl ai ?_)
  |(refine jP rfl 4 rfl 150 _ rfl #[G F 0,G F 0] [(0,G F 0),(1,G F 0)] rfl ai ?_)
  |(refine jP rfl 6 rfl 150 _ rfl #[G F 0,G F 4] [(0,G F 0),(1,G F 4)] rfl ai ?_)
  |(refine jP rfl 7 rfl 150 _ rfl #[G F 1,G F 0] [(0,G F 1),(1,G F 0)] rfl ai ?_)
  |(refine jP rfl 8 rfl 150 _ rfl #[G F 5,G F 5] [(0,G F 5),(1,G F 5)] rfl ai ?_)
  |(refine jP rfl 9 rfl 150 _ rfl #[G F 0,G F 0] [(0,G F 0),(1,G F 0)] rfl ai ?_)
  |(refine jP rfl 11 rfl 150 _ rfl #[G F 4,G F 0] [(0,G F 4),(1,G F 0)] rfl ai ?_)
  |(refine jP rfl 12 rfl 150 _ rfl #[G F 0,G F 1] [(0,G F 0),(1,G F 1)] rfl ai ?_)
  |(refine jP rfl 13 rfl 150 _ rfl #[G F 5,G F 5] [(0,G F 5),(1,G F 5)] rfl ai ?_)
  |(refine jP rfl 14 rfl 150 _ rfl #[G F 0,G F 0] [(0,G F 0),(1,G F 0)] rfl ai ?_)
  |(refine jP rfl 16 rfl 150 _ rfl #[G F 0,G F 0] [(0,G F 0),(1,G F 0)] rfl ai ?_)
  |(refine jP rfl 17 rfl 150 _ rfl #[G F 3,G F 2] [(0,G F 3),(1,G F 2)] rfl ai ?_)
  |(refine jP rfl 18 rfl 150 _ rfl #[G F 5,G F 5] [(0,G F 5),(1,G F 5)] rfl ai ?_)
  |(refine jP rfl 19 rfl 150 _ rfl #[G F 0,G F 0] [(0,G F 0),(1,G F 0)] rfl ai ?_)
  |(refine jP rfl 21 rfl 150 _ rfl #[G F 0,G F 0] [(0,G F 0),(1,G F 0)] rfl ai ?_)
  |(refine jP rfl 22 rfl 150 _ rfl #[G F 0,G F 0] [(0,G F 0),(1,G F 0)] rfl ai ?_)
  |(refine jP rfl 23 rfl 150 _ rfl #[G F 0,G F 0] [(0,G F 0),(1,G F 0)] rfl ai ?_)
  |(refine jP rfl 24 rfl 150 _ rfl #[G F 1,G F 1] [(0,G F 1),(1,G F 1)] rfl ai ?_)
  |(refine jP rfl 5 rfl 151 _ rfl #[G F 2,G F 3,G F 0,G F 0,G F 5,G F 5,G F 0,G F 0] [(0,az #[G F 2,G F 3]),(1,az #[G F 0,G F 0]),(2,az #[G F 5,G F 5]),(3,az #[G F 0,G F 0])] rfl ai ?_)
  |(refine jP rfl 10 rfl 151 _ rfl #[G F 0,G F 4,G F 1,G F 0,G F 5,G F 5,G F 0,G F 0] [(0,az #[G F 0,G F 4]),(1,az #[G F 1,G F 0]),(2,az #[G F 5,G F 5]),(3,az #[G F 0,G F 0])] rfl ai ?_)
  |(refine jP rfl 15 rfl 151 _ rfl #[G F 4,G F 0,G F 0,G F 1,G F 5,G F 5,G F 0,G F 0] [(0,az #[G F 4,G F 0]),(1,az #[G F 0,G F 1]),(2,az #[G F 5,G F 5]),(3,az #[G F 0,G F 0])] rfl ai ?_)
  |(refine jP rfl 20 rfl 151 _ rfl #[G F 0,G F 0,G F 3,G F 2,G F 5,G F 5,G F 0,G F 0] [(0,az #[G F 0,G F 0]),(1,az #[G F 3,G F 2]),(2,az #[G F 5,G F 5]),(3,az #[G F 0,G F 0])] rfl ai ?_)
  |(refine jP rfl 25 rfl 151 _ rfl #[G F 0,G F 0,G F 0,G F 0,G F 0,G F 0,G F 1,G F 1] [(0,az #[G F 0,G F 0]),(1,az #[G F 0,G F 0]),(2,az #[G F 0,G F 0]),(3,az #[G F 1,G F 1])] rfl ai ?_)
  |(refine jP rfl 26 rfl 152 _ rfl ED [(1,az #[G F 2,G F 3,G F 0,G F 0,G F 5,G F 5,G F 0,G F 0]),(2,az #[G F 0,G F 4,G F 1,G F 0,G F 5,G F 5,G F 0,G F 0]),(3,az #[G F 4,G F 0,G F 0,G F 1,G F 5,G F 5,G F 0,G F 0]),(4,az #[G F 0,G F 0,G F 3,G F 2,G F 5,G F 5,G F 0,G F 0]),(5,az #[G F 0,G F 0,G F 0,G F 0,G F 0,G F 0,G F 1,G F 1])] rfl ai ?_)
  |(refine oQ rfl 152 (.tmp 0) (.tmp 26) rfl w.heap.size ED rfl rfl 152 JQ HZ.out ai rfl ai ?_))
 refine iq (v:= az ED) (FL Tryz.results65 _ _ w.heap.size 152 ED (0,0) _ rfl (mQ HZ.out _) Tryz.underlying152 rfl ai) rfl ?_;exact⟨rfl,oJ hb.out (aC _)⟩
end
section
variable (w:Z)
theorem af6 (W:Z):(yx 152 (az ED) (G F 1)).run ak W= .ok (az #[G F 2,G F 3,G F 0,G F 0,G F 5,G F 5,G F 0,G F 0]) W:=ai
theorem af5 (W:Z):(yx 151 (az #[G F 2,G F 3,G F 0,G F 0,G F 5,G F 5,G F 0,G F 0]) (G F 0)).run ak W= .ok (az #[G F 2,G F 3]) W:=ai
theorem af4 (W:Z):(yx 150 (az #[G F 2,G F 3]) (G F 0)).run ak W= .ok (G F 2) W:=ai
theorem af3:aF ak 31 #[G F 1,G F 0,G F 0] w (λe w'=>e= .returned (bG #[G F 2,G F 0])/\Below w.heap.size w w'):=by
 have K1:=I (Su w 1 aJ);have K2:=I (Yx w);have i1:=af6;have i2:=af5;have i3:=af4;go_enter Tryz.func31,Tryz.ntmps31;go_upto_region 3 with (go_at_call 30;refine K1.out.mono ?_;rintro e w2 ⟨rfl,hw2⟩;obtain rfl:w=w2:=hw2.symm)
 go_wp2_with (go_at_call 65;refine K2.out.mono ?_;rintro e w3 ⟨rfl,hb3⟩);go_ret2;exact⟨rfl,hb3⟩
theorem aga (W:Z):(yx 152 (az ED) (G F 2)).run ak W= .ok (az #[G F 0,G F 4,G F 1,G F 0,G F 5,G F 5,G F 0,G F 0]) W:=ai
theorem af9 (W:Z):(yx 151 (az #[G F 0,G F 4,G F 1,G F 0,G F 5,G F 5,G F 0,G F 0]) (G F 0)).run ak W= .ok (az #[G F 0,G F 4]) W:=ai
theorem af8 (W:Z):(yx 150 (az #[G F 0,G F 4]) (G F 1)).run ak W= .ok (G F 4) W:=ai
theorem af7:aF ak 31 #[G F 2,G F 1,G F 0] w (λe w'=>e= .returned (bG #[G F 4,G F 0])/\Below w.heap.size w w'):=by
 have K1:=I (Su w 2 aJ);have K2:=I (Yx w);have i1:=aga;have i2:=af9;have i3:=af8;go_enter Tryz.func31,Tryz.ntmps31;go_upto_region 3 with (go_at_call 30;refine K1.out.mono ?_;rintro e w2 ⟨rfl,hw2⟩;obtain rfl:w=w2:=hw2.symm)
 go_wp2_with (go_at_call 65;refine K2.out.mono ?_;rintro e w3 ⟨rfl,hb3⟩);go_ret2;exact⟨rfl,hb3⟩
theorem agc (g:Nat) (gt:TypeId) (hg:au w g gt #[G F 0,G F 0,G F 1,G F 0]):aF ak 10 #[G F 1,T (N ⟨g,0,J⟩) 2 2] w (λe w'=>e= .returned (bG #[G F 4,G F 2,G F 0])/\Below w.heap.size w w'):=by
 have K1:=I (Su w 1 aJ);have KA:=I (λW=>af3 W);have KB:=I (λW=>af7 W);have HG:=I hg;have hb:=aD w.heap.size w;clear hg;go_enter Tryz.func10,Tryz.ntmps10;go_wp2_with (go_at_call 30;refine K1.out.mono ?_;rintro e w2 ⟨rfl,hw2⟩;obtain rfl:w=w2:=hw2.symm);go_loopw [0,16] (λs t wr=>Below w.heap.size w wr/\((t= G F 0/\s= G F 1)\/(t= G F 1/\s= G F 2)\/(t= G F 2/\s= G F 4))) (λ_ t _=>2 - (intOf t).toNat)
 case atStart=>exact⟨hb,.inl ⟨rfl,rfl⟩⟩
 case round=>
  clear hb;obtain⟨hb,hrel⟩:=hrel;have yJ:=I (HG.out.step hb);have g0:wr.cell? ⟨g,0,J⟩=N (G F 0):=yJ.out.cell 0;have g1:wr.cell? ⟨g,1,J⟩=N (G F 0):=yJ.out.cell 1;have g2:wr.cell? ⟨g,2,J⟩=N (G F 1):=yJ.out.cell 2;have g3:wr.cell? ⟨g,3,J⟩=N (G F 0):=yJ.out.cell 3
  rcases hrel with ⟨rfl,rfl⟩|⟨rfl,rfl⟩|⟨rfl,rfl⟩
  ·have hst:=hb.alloc hb.size (U #[G F 0,G F 0] 52);go_wp2_with (go_at_call 31;refine(KA.out _).mono ?_;rintro e w4 ⟨rfl,ah⟩;have hb4:=ay hst ah;clear ah);go_roundw
   case rel=>exact⟨hb4,.inr (.inl ⟨by go_num,rfl⟩)⟩
   case measure=>simp[intOf]
  ·have hst:=hb.alloc hb.size (U #[G F 1,G F 0] 52);go_wp2_with (go_at_call 31;refine(KB.out _).mono ?_;rintro e w4 ⟨rfl,ah⟩;have hb4:=ay hst ah;clear ah);go_roundw
   case rel=>exact⟨hb4,.inr (.inr ⟨by go_num,rfl⟩)⟩
   case measure=>simp[intOf]
  ·go_wp2_with fail;go_ret3;exact⟨rfl,hb⟩
end
section
open Go.Shelf Go.RowKit Go.Lib Go.Sort
section
variable {P:dH} {ρ:Ren} {α:Type} [Inhabited α] {enc:α->aj}
def aed (enc:α->aj) (base:Nat) (t:TypeId) (v:aj) (l:List α) (w:Z) (e:eG) (w':Z):Prop:=
 e= .returned (.tuple #[])/\ ∃ l2:List α,l2.Perm l/\w'.ownsRow base t 1 v l2.length (l2.map enc)/\w.grownBy w' v.ownBlock
theorem akV (L:SlLaysF.n6 P ρ) (h1:OneCell enc) (cf:α->α->Int) (hO:SWO (ltOf cf)) (g:Nat) (cb:Array aj) (eg: ∀ args w,(callFunc g args).run P w= .ok (.enter g args) w) {w:Z} (hc: ∀ blk off size,CmpLays1 P g cb enc cf blk off size w)
 {base:Nat} {t:TypeId} {v:aj} {l:List α} (hl:l.length<1000000000) (h:w.ownsRow base t 1 v l.length (l.map enc)):
 aF P (ρ.f 6) #[v,.func (.func g) #[] cb] w (aed enc base t v l w):=by
 rcases h.2 with ⟨rfl,h0⟩|⟨b,cap,cur,rfl,hb,hg,hnc,hcm,hcs,hct⟩
 ·have hnil:l= []:=zC h0;subst hnil;refine(AnyF.slices_SortFunc_none { L with } J 0 _ w).mono ?_;rintro e w' ⟨rfl,rfl⟩;exact⟨rfl,[],oz _,h,Ig _ _⟩
 ·have hlt:b<w.heap.size:=(nM.1 hg).1;have hH:Holds enc w b 0 l.toArray:=by
   intro j hj;have hj':j<l.length:=by simpa using hj
   have hc:=h.cells (g:=b) rfl j (enc l[j]) (by simp[hj']);rw[Ae]at hc;refine⟨?_,by simp[World.frozen?,hg]⟩;rw[nN,hc];simp[hj']
  have hs:=Any.slices_SortFunc L enc h1 cf hO g cb b 0 cap l.toArray w eg (hc _ _ _) hH hlt bL;rw[show l.toArray.size=l.length from rfl]at hs;refine hs.mono ?_;rintro e w' ⟨rfl,dk,n,os,hp,-,rfl⟩;obtain⟨hd,hp2⟩:=abb (d:=l.toArray) hp;have hd2:dk.size=l.length:=hd;have hlen:dk.toList.length=l.length:=by simpa using hd2
  have hheap:(sortWorld enc w b 0 n dk os).heap[b]? =N (.cells (putCells enc 0 dk cur) t (0,0)):=by
   unfold sortWorld;rw[heap_grow_old _ _ (by simpa using hlt)];simp[putRow,mapBlock,Sort.ahead,L9,hg,onCells]
  refine⟨rfl,dk.toList,by simpa using hp2,⟨by simp[hlen],.inr ⟨b,cap,putCells enc 0 dk cur,by rw[hlen],hb,hheap,O,hcm,by simp[putCells,hcs],?_⟩⟩,rfl,rfl,rfl,?_,?_⟩
  ·have hcz:l.length<=cur.size:=O;apply List.ext_getElem?;intro j
   by_cases hj:j<l.length
   ·rw[VD O,q9];simp[putCells,show j<cur.size from O,show j<dk.size from O]
   ·rw[MH (by rw[jR];omega),MH bL]
  ·simp[sortWorld]
  ·intro k hk hne;have hne':b≠k:=λe=>hne (by rw[e];rfl)
   unfold sortWorld;rw[heap_grow_old _ _ (by simpa using hk)];simp[putRow,mapBlock,Sort.ahead,L9,hne']
end
end
end Go.Proofs.YtbedbfdhfokifaaGreat

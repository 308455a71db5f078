/- Part of the proof of WholeMatching. -/
import Derived.Test.YtbedbfdhfokifaaGreatJAF
import Derived.Test.YtbedbfdhfokifaaGreatJAG
import Derived.Test.YtbedbfdhfokifaaGreatJAH
namespace Go.Proofs.YtbedbfdhfokifaaGreat
set_option maxRecDepth 100000
set_option maxHeartbeats 16000000
set_option linter.unusedVariables false
set_option linter.unusedSimpArgs false
open _root_.Bool renaming true->ae,false->ag
open Go renaming World->Z,Calls->aF,Addr->aG,undef->aV,Value->aj,maxLen->bK,Oper->dC,Program->dH,Operand->lU
open Go.IntKind renaming i64->F
open Go.Lit renaming int->jQ
open Go.Proofs.Tryz renaming prog->ak
open Go.Value renaming int->G,slice->T,bool->aA,pointer->aN,tuple->bG
open _root_.Option renaming none->J,some->N
open Go.RowKit
theorem anJ (l:List Acc) (g:Bool) (A:Option aG) (cap:Nat) (w:Z) (hr:Rd w w.heap.size 4 A l.length (Ch.cells l)) (hn:l.length<=300000):
 aF ak 193 #[T A l.length cap,aA g] w (fD (Ch.ql l g) w):=by
 have hb:=aD w.heap.size w;have HR:=I hr;clear hr
 by_cases EG:l.length<=200
 ·go_enter Tryz.func193,Tryz.ntmps193;go_wp2_with fail;go_loopw [5] (λt wr=> ∃ k:Nat,k<=l.length/\(∀ j,j<k->Ch.uV l g j=ae)/\t= G F k/\Below w.heap.size w wr) (λt _=>l.length - (intOf t).toNat)
  case atStart=>exact⟨0,O,λj h=>O,rfl,hb⟩
  case round=>
   clear hb;obtain⟨k,hk,hno,rfl,hb⟩:=hrel;have HN:=I hno;have hz:=hb.size;clear hno
   by_cases hlt:k<l.length
   ·obtain⟨b,o,hA,aX,f0,f1,f2,f3⟩:=Ch.at_ (HR.out.below hb (aC _)) hlt;subst hA;have hk1:k - 1<l.length:=O;obtain⟨b',o',hA',-,f4,-,-,-⟩:=Ch.at_ (HR.out.below hb (aC _)) hk1;injection hA' with hA'
    injection hA' with hA1 hA2
    subst hA1 hA2;have q0: ∀ d:Later wr,d.now.cell? ⟨b,o+k*4,J⟩=N (G F l[k].code):=λd=>d.cell O f0
    have q1: ∀ d:Later wr,d.now.cell? ⟨b,o+k*4+1,J⟩=N (G F l[k].kind):=λd=>d.cell O f1
    have q2: ∀ d:Later wr,d.now.cell? ⟨b,o+k*4+2,J⟩=N (G F l[k].basis):=λd=>d.cell O f2
    have q3: ∀ d:Later wr,d.now.cell? ⟨b,o+k*4+3,J⟩=N (G F l[k].parent):=λd=>d.cell O f3
    have q4: ∀ d:Later wr,d.now.cell? ⟨b,o+(k - 1)*4,J⟩=N (G F (l[k - 1]'hk1).code):=λd=>d.cell O f4
    clear f0 f1 f2 f3 f4
    cases hP:Ch.yo l l[k] g
    ·have HE:Hid (Ch.ql l g=ag):=I (Ch.Pp hlt (.inl hP));go_wp2_with fail;refine AZ (n:=39) (wr) ai rfl ?_;have hC:=gH.drew (wr);have hT:=tg 0;(iterate 6 first|(refine aac hT hC ?_;clear hT;intro hT K hK;go_big_quiet_op;go_big_quiet_on)|(refine aaB hT hC ?_;clear hT;intro hT;simp only[Zx]));clear hT;refine mW (i:=6) ai rfl rfl ?_;intro K hK;go_simp;go_at_call 243;refine(Hq l l[k] g _ cap _ (Rd.now HR.out (ay hb hC.below)) hn).mono ?_;rintro e w2 ⟨rfl,hb2⟩;(try go_wp2_with fail);replace hC:=hC.on hb2;refine hK _ _ hC (λ_=> ?_);clear hK K;(try simp only[Zx]);have hT:=tg 7;(iterate 32 first|(refine aac hT hC ?_;clear hT;intro hT K hK;go_big_quiet_op;go_big_quiet_on)|(refine aaB hT hC ?_;clear hT;intro hT;simp only[Zx]));clear hT;refine wpAnyH_done ai ?_ _;have hbe:=ay hb hC.below;go_wp2_with fail;go_ret;exact⟨by rw[HE.out];rfl,hbe⟩
    ·rcases Ch.alr k (l[k - 1]'hk1).code l[k].code with ⟨hd,ho⟩|⟨hd,hg,ho⟩|⟨hd,hg,h0,ho⟩
     ·cases hL:decide (l.length<(Ch.sP l l[k].code).length)
      ·have HE:Hid (Ch.uV l g k=ae):=I (Ch.UY hlt hP (.inl ho) (by simpa using hL))
       skip
       clear ho;go_wp2_with fail;refine AZ (n:=39) (wr) ai rfl ?_;have hC:=gH.drew (wr);have hT:=tg 0;(iterate 6 first|(refine aac hT hC ?_;clear hT;intro hT K hK;go_big_quiet_op;go_big_quiet_on)|(refine aaB hT hC ?_;clear hT;intro hT;simp only[Zx]));clear hT;refine mW (i:=6) ai rfl rfl ?_;intro K hK;go_simp;go_at_call 243;refine(Hq l l[k] g _ cap _ (Rd.now HR.out (ay hb hC.below)) hn).mono ?_;rintro e w2 ⟨rfl,hb2⟩;(try go_wp2_with fail);replace hC:=hC.on hb2;refine hK _ _ hC (λ_=> ?_);clear hK K;(try simp only[Zx]);have hT:=tg 7;(iterate 26 first|(refine aac hT hC ?_;clear hT;intro hT K hK;go_big_quiet_op;go_big_quiet_on)|(refine aaB hT hC ?_;clear hT;intro hT;simp only[Zx]));clear hT;have hT:=tg 35;(iterate 2 first|(refine aac hT hC ?_;clear hT;intro hT K hK;go_big_quiet_op;go_big_quiet_on)|(refine aaB hT hC ?_;clear hT;intro hT;simp only[Zx]));clear hT;refine mW (i:=33) ai rfl rfl ?_;intro K hK;go_simp;go_at_call 244;refine(Ph l l[k].code _ cap _ (Rd.now HR.out (ay hb hC.below)) hn).mono ?_;rintro e w2 ⟨v4,rfl,lL,hb2⟩;(try go_wp2_with fail);replace hC:=hC.on hb2;refine hK _ _ hC (λ_=> ?_);clear hK K;(try simp only[Zx]);obtain⟨A4,c4,rfl,-⟩:=Rd.dE lL;clear lL
       (first|(refine aqx 34 hC ?_;intro K hK;go_big_quiet_op;go_big_quiet_on)|(refine aqw 34 hC ?_;simp only[Zx]));have hT:=tg 37;(iterate 2 first|(refine aac hT hC ?_;clear hT;intro hT K hK;go_big_quiet_op;go_big_quiet_on)|(refine aaB hT hC ?_;clear hT;intro hT;simp only[Zx]));clear hT
       refine wpAnyH_done ai ?_ _;have hbe:=ay hb hC.below;go_wp2_with fail;go_roundw
       case rel=>exact⟨k+1,O,Be HN.out HE.out,by go_num,hbe⟩
       case measure=>simp[intOf];omega
      ·have HE:Hid (Ch.ql l g=ag):=I (Ch.Pp hlt (.inr (.inr (by simpa using hL))))
       skip
       clear ho;go_wp2_with fail;refine AZ (n:=39) (wr) ai rfl ?_;have hC:=gH.drew (wr);have hT:=tg 0;(iterate 6 first|(refine aac hT hC ?_;clear hT;intro hT K hK;go_big_quiet_op;go_big_quiet_on)|(refine aaB hT hC ?_;clear hT;intro hT;simp only[Zx]));clear hT;refine mW (i:=6) ai rfl rfl ?_;intro K hK;go_simp;go_at_call 243;refine(Hq l l[k] g _ cap _ (Rd.now HR.out (ay hb hC.below)) hn).mono ?_;rintro e w2 ⟨rfl,hb2⟩;(try go_wp2_with fail);replace hC:=hC.on hb2;refine hK _ _ hC (λ_=> ?_);clear hK K;(try simp only[Zx]);have hT:=tg 7;(iterate 26 first|(refine aac hT hC ?_;clear hT;intro hT K hK;go_big_quiet_op;go_big_quiet_on)|(refine aaB hT hC ?_;clear hT;intro hT;simp only[Zx]));clear hT;have hT:=tg 35;(iterate 2 first|(refine aac hT hC ?_;clear hT;intro hT K hK;go_big_quiet_op;go_big_quiet_on)|(refine aaB hT hC ?_;clear hT;intro hT;simp only[Zx]));clear hT;refine mW (i:=33) ai rfl rfl ?_;intro K hK;go_simp;go_at_call 244;refine(Ph l l[k].code _ cap _ (Rd.now HR.out (ay hb hC.below)) hn).mono ?_;rintro e w2 ⟨v4,rfl,lL,hb2⟩;(try go_wp2_with fail);replace hC:=hC.on hb2;refine hK _ _ hC (λ_=> ?_);clear hK K;(try simp only[Zx]);obtain⟨A4,c4,rfl,-⟩:=Rd.dE lL;clear lL
       (first|(refine aqx 34 hC ?_;intro K hK;go_big_quiet_op;go_big_quiet_on)|(refine aqw 34 hC ?_;simp only[Zx]));have hT:=tg 37;(iterate 2 first|(refine aac hT hC ?_;clear hT;intro hT K hK;go_big_quiet_op;go_big_quiet_on)|(refine aaB hT hC ?_;clear hT;intro hT;simp only[Zx]));clear hT
       refine wpAnyH_done ai ?_ _;have hbe:=ay hb hC.below;go_wp2_with fail;go_ret;exact⟨by rw[HE.out];rfl,hbe⟩
     ·cases hL:decide (l.length<(Ch.sP l l[k].code).length)
      ·have HE:Hid (Ch.uV l g k=ae):=I (Ch.UY hlt hP (.inr ho) (by simpa using hL))
       (have e1:=Ch.Vp k (by simpa using hd) O)
       clear ho;go_wp2_with fail;refine AZ (n:=39) (wr) ai rfl ?_;have hC:=gH.drew (wr);have hT:=tg 0;(iterate 6 first|(refine aac hT hC ?_;clear hT;intro hT K hK;go_big_quiet_op;go_big_quiet_on)|(refine aaB hT hC ?_;clear hT;intro hT;simp only[Zx]));clear hT;refine mW (i:=6) ai rfl rfl ?_;intro K hK;go_simp;go_at_call 243;refine(Hq l l[k] g _ cap _ (Rd.now HR.out (ay hb hC.below)) hn).mono ?_;rintro e w2 ⟨rfl,hb2⟩;(try go_wp2_with fail);replace hC:=hC.on hb2;refine hK _ _ hC (λ_=> ?_);clear hK K;(try simp only[Zx]);have hT:=tg 7;(iterate 26 first|(refine aac hT hC ?_;clear hT;intro hT K hK;go_big_quiet_op;go_big_quiet_on)|(refine aaB hT hC ?_;clear hT;intro hT;simp only[Zx]));clear hT;have hT:=tg 35;(iterate 2 first|(refine aac hT hC ?_;clear hT;intro hT K hK;go_big_quiet_op;go_big_quiet_on)|(refine aaB hT hC ?_;clear hT;intro hT;simp only[Zx]));clear hT;refine mW (i:=33) ai rfl rfl ?_;intro K hK;go_simp;go_at_call 244;refine(Ph l l[k].code _ cap _ (Rd.now HR.out (ay hb hC.below)) hn).mono ?_;rintro e w2 ⟨v4,rfl,lL,hb2⟩;(try go_wp2_with fail);replace hC:=hC.on hb2;refine hK _ _ hC (λ_=> ?_);clear hK K;(try simp only[Zx]);obtain⟨A4,c4,rfl,-⟩:=Rd.dE lL;clear lL
       (first|(refine aqx 34 hC ?_;intro K hK;go_big_quiet_op;go_big_quiet_on)|(refine aqw 34 hC ?_;simp only[Zx]));have hT:=tg 37;(iterate 2 first|(refine aac hT hC ?_;clear hT;intro hT K hK;go_big_quiet_op;go_big_quiet_on)|(refine aaB hT hC ?_;clear hT;intro hT;simp only[Zx]));clear hT
       refine wpAnyH_done ai ?_ _;have hbe:=ay hb hC.below;go_wp2_with fail;go_roundw
       case rel=>exact⟨k+1,O,Be HN.out HE.out,by go_num,hbe⟩
       case measure=>simp[intOf];omega
      ·have HE:Hid (Ch.ql l g=ag):=I (Ch.Pp hlt (.inr (.inr (by simpa using hL))))
       (have e1:=Ch.Vp k (by simpa using hd) O)
       clear ho;go_wp2_with fail;refine AZ (n:=39) (wr) ai rfl ?_;have hC:=gH.drew (wr);have hT:=tg 0;(iterate 6 first|(refine aac hT hC ?_;clear hT;intro hT K hK;go_big_quiet_op;go_big_quiet_on)|(refine aaB hT hC ?_;clear hT;intro hT;simp only[Zx]));clear hT;refine mW (i:=6) ai rfl rfl ?_;intro K hK;go_simp;go_at_call 243;refine(Hq l l[k] g _ cap _ (Rd.now HR.out (ay hb hC.below)) hn).mono ?_;rintro e w2 ⟨rfl,hb2⟩;(try go_wp2_with fail);replace hC:=hC.on hb2;refine hK _ _ hC (λ_=> ?_);clear hK K;(try simp only[Zx]);have hT:=tg 7;(iterate 26 first|(refine aac hT hC ?_;clear hT;intro hT K hK;go_big_quiet_op;go_big_quiet_on)|(refine aaB hT hC ?_;clear hT;intro hT;simp only[Zx]));clear hT;have hT:=tg 35;(iterate 2 first|(refine aac hT hC ?_;clear hT;intro hT K hK;go_big_quiet_op;go_big_quiet_on)|(refine aaB hT hC ?_;clear hT;intro hT;simp only[Zx]));clear hT;refine mW (i:=33) ai rfl rfl ?_;intro K hK;go_simp;go_at_call 244;refine(Ph l l[k].code _ cap _ (Rd.now HR.out (ay hb hC.below)) hn).mono ?_;rintro e w2 ⟨v4,rfl,lL,hb2⟩;(try go_wp2_with fail);replace hC:=hC.on hb2;refine hK _ _ hC (λ_=> ?_);clear hK K;(try simp only[Zx]);obtain⟨A4,c4,rfl,-⟩:=Rd.dE lL;clear lL
       (first|(refine aqx 34 hC ?_;intro K hK;go_big_quiet_op;go_big_quiet_on)|(refine aqw 34 hC ?_;simp only[Zx]));have hT:=tg 37;(iterate 2 first|(refine aac hT hC ?_;clear hT;intro hT K hK;go_big_quiet_op;go_big_quiet_on)|(refine aaB hT hC ?_;clear hT;intro hT;simp only[Zx]));clear hT
       refine wpAnyH_done ai ?_ _;have hbe:=ay hb hC.below;go_wp2_with fail;go_ret;exact⟨by rw[HE.out];rfl,hbe⟩
     ·have HE:Hid (Ch.ql l g=ag):=I (Ch.Pp hlt (.inr (.inl ⟨h0,ho⟩)));have e1:=Ch.Vp k h0 O;clear ho h0;go_wp2_with fail;refine AZ (n:=39) (wr) ai rfl ?_;have hC:=gH.drew (wr);have hT:=tg 0;(iterate 6 first|(refine aac hT hC ?_;clear hT;intro hT K hK;go_big_quiet_op;go_big_quiet_on)|(refine aaB hT hC ?_;clear hT;intro hT;simp only[Zx]));clear hT;refine mW (i:=6) ai rfl rfl ?_;intro K hK;go_simp;go_at_call 243;refine(Hq l l[k] g _ cap _ (Rd.now HR.out (ay hb hC.below)) hn).mono ?_;rintro e w2 ⟨rfl,hb2⟩;(try go_wp2_with fail);replace hC:=hC.on hb2;refine hK _ _ hC (λ_=> ?_);clear hK K;(try simp only[Zx]);have hT:=tg 7;(iterate 32 first|(refine aac hT hC ?_;clear hT;intro hT K hK;go_big_quiet_op;go_big_quiet_on)|(refine aaB hT hC ?_;clear hT;intro hT;simp only[Zx]));clear hT;refine wpAnyH_done ai ?_ _;have hbe:=ay hb hC.below;go_wp2_with fail;go_ret;exact⟨by rw[HE.out];rfl,hbe⟩
   ·have HE:Hid (Ch.ql l g=ae):=I (Ch.abS l g EG (λj h=>HN.out j O));go_wp2_with fail;go_ret;exact⟨gz (by rw[HE.out]),hb⟩
 ·have HE:Hid (Ch.ql l g=ag):=I (Ch.anL l g EG);go_enter Tryz.func193,Tryz.ntmps193;go_wp2_with fail;go_ret;exact⟨gz (by rw[HE.out]),hb⟩
section
open Go.Maps (Keyed)
def rR (P:dH) (k e:TypeId) (w:Z) (b n:Nat) (S:List Int):Prop:=
 ∃ D:DataW Unit,w.ownsMap P k (plainElem P e) b n D/\Maps.IsMap D/\ ∀ c,Maps.has D (.int .i64 c)=decide (c∈S)
section
variable {P:dH} {k e t:TypeId} {w w':Z} {b n:Nat} {S:List Int}
theorem rR.made (w:Z):rR P k e (w.alloc (.map #[] 0)) w.heap.size 0 []:=⟨.map [],H8 _ _ _ _,H9,λ_=>by simp[Maps.has]⟩
theorem rR.kept {row:Option Nat} (h:rR P k e w b n S) (hg:w.grownBy w' row) (hne:N b≠row):rR P k e w' b n S:=by obtain⟨D,h,r⟩:=h;exact⟨D,h.kept hg hne,r⟩
theorem rR.alloc (h:rR P k e w b n S) (o:Obj):rR P k e (w.alloc o) b n S:=h.kept (zB w o J) aL
theorem acn {ops:Array dC} {rest:List dC} {o:dC} {a:Act} {Q:Exit->Act->Z->Prop} (hg:o.guard=J) (m x v:lU) (t:TypeId) (hop:o.op=Op.mapUpdate t m x v)
 (hk:P.underlying k=N (.int .i64)) (he:P.underlying e=N .bool) (ht:P.underlying t=N (.map k e)) (h:rR P k e w b n S) (hn:n<bK) (c:Int) (hc:(jQ .i64 c).wf=ae)
 (hm:a.eval m= .map (N b)) (hx:a.eval x= G F c) (hv:a.eval v= aA ae)
 (hK: ∀ w',rR P k e w' b (n+1) (S++ [c])->w.grownBy w' (N b)->wpList P ops Q rest (a.put o.dst aV) w'):wpList P ops Q (o::rest) a w:=by
 obtain⟨D,h,hM,hD⟩:=h;refine PN w hg m x v t hop k e (Fz hk) ht _ b n D hm h hn _ _ _ hx hv (Ia hk hc) _ [] (FB he ae) λw' h2 g2=>hK w' ⟨_,h2,hM.put _ _,λd=> ?_⟩ g2
 by_cases hd:d=c
 ·subst hd;rw[P9 hM (show WideAt.IsKeyLit (.int .i64 d) from trivial)];simp
 ·rw[Qa (int_ne hd),hD d];simp[hd]
end
def IE (S:List Int) (left:Lit->Bool) (L:List Int):Prop:=L.Nodup/\ ∀ c,(c∈S↔c∈L\/left (.int .i64 c)=ae)/\(c∈L->left (.int .i64 c)=ag)
theorem afx {S:List Int} {D:DataW Unit} (h: ∀ c,Maps.has D (.int .i64 c)=decide (c∈S)):IE S (Maps.has D) []:=
 ⟨List.nodup_nil,λc=>⟨by simp[h c],aL⟩⟩
theorem afy {S:List Int} {left:Lit->Bool} {L:List Int} {x:Int} (h:IE S left L) (hl:left (.int .i64 x)=ae):IE S (strike left x) (L++ [x]):=by
 have hx:x ∉ L:=λhm=>by have:=(h.2 x).2 hm;rw[hl]at this;cases this
 refine⟨vz.2 ⟨h.1,aL,λa ha b hb e=>by simp at hb;subst hb;subst e;exact hx ha⟩,λc=>⟨?_,λhm=> ?_⟩⟩
 ·rw[(h.2 c).1,ab8,il,iJ]
  by_cases e:c=x
  ·subst e;simp[hl]
  ·simp[e]
 ·rw[ab8]
  by_cases e:c=x
  ·simp[e]
  ·rw[bE e];exact(h.2 c).2 (by simpa [e] using hm)
theorem afw {S:List Int} {left:Lit->Bool} {L:List Int} (h:IE S left L) (hl: ∀ kl,left kl=ag):L.Nodup/\ ∀ c,c∈L↔c∈S:=
 ⟨h.1,λc=>by rw[(h.2 c).1,hl];simp⟩
theorem alO {a b:List Int} (ha:a.Nodup) (hb:b.Nodup) (h: ∀ c,c∈a↔c∈b):a.Perm b:=(List.perm_ext_iff_of_nodup ha hb).2 h
theorem ao4 {P:dH} {k e:TypeId} {w:Z} {ops:Array dC} {rest:List dC} {o:dC} {a:Act} {Q:Exit->Act->Z->Prop} (hg:o.guard=J) (it:lU) (hop:o.op=Op.next it ag)
 (K:Keyed P k) (hk:P.underlying k=N (.int .i64)) (he:P.underlying e=N .bool) (b r n:Nat) (D:DataW Unit) (left:Lit->Bool) (cnt:Nat) (hit:a.eval it= .pointer (N ⟨r,0,J⟩)) (h:w.ranges P k (plainElem P e) b r n D left cnt)
 (hDone:(∀ kl,left kl=ag)->wpList P ops Q rest (a.put o.dst (bG #[aA ag])) w)
 (hMore: ∀ (x:Int) (v:aj) (w':Z) (cnt':Nat),(jQ .i64 x).wf=ae->left (.int .i64 x)=ae->w'.ranges P k (plainElem P e) b r n D (strike left x) cnt'->cnt'<cnt->
  w.grownBy w' (N r)->w'.heap.size=w.heap.size->(Instr.entry (aN (N ⟨r,0,J⟩))).run P w'= .ok (bG #[G F x,v]) w'->wpList P ops Q rest (a.put o.dst (bG #[aA ae,G F x,v])) w'):
 wpList P ops Q (o::rest) a w:=
 wpList_next_ranges w hg it hop k K (plainElem P e) (G .i64) aA (λkey kl hkey=>by obtain⟨x,rfl,_⟩:=Maps.keyOf_int_inv hk hkey;exact⟨x,rfl⟩) (λv y hv=>by obtain⟨c,rfl,_⟩:=O5 he hv;exact⟨c,rfl⟩)
  b r n D left cnt hit h (λ_=>hDone) (λx c kl y w' cnt' hkey hlk hv hat hrg hlt hgr hsz hen=>by
   obtain⟨x',ex,rfl,hwx⟩:=Maps.keyOf_int_inv hk hkey
   cases ex
   exact hMore x (aA c) w' cnt' hwx hlk hrg hlt hgr hsz hen)
end
end Go.Proofs.YtbedbfdhfokifaaGreat

/- Parts of the proof, one behind another. -/
import Derived.Test.YtekehmgfedmflaaGreatDoorX0
import Derived.Defers
import Derived.Sort.Grow
set_option linter.all false
noncomputable section
namespace Go.Proofs.YtekehmgfedmflaaGreatDoor.A
section
open Go Go.RowKit
section
variable{Rt:Type}{C:Cx}{σ:Heap}{r:Rt}{e:Env}
theorem y7_{t:TypeId}{K:TI->Option Rt}(h:C.ti t K=some r):∃a,K a=some r/\∀{R2:Type} (K2:TI->Option R2),C.ti t K2=K2 a:=by
 unfold Cx.ti at h
 split at h
 ·rename_i a ha;exact⟨a,h,fun K2=>by simp only[Cx.ti,ha]⟩
 ·cases h
theorem y6_{x:Operand}{K:AVal->Option Rt}(h:ev C e x K=some r):∃a,K a=some r/\∀{R2:Type} (K2:AVal->Option R2),ev C e x K2=K2 a:=by
 cases x with
 |tmp t=>
  simp only[ev]at h
  split at h
  ·rename_i a ha;exact⟨a,h,fun K2=>by simp only[ev,ha]⟩
  ·cases h
 |const v=>
  simp only[ev]at h
  split at h
  ·rename_i a ha;exact⟨a,h,fun K2=>by simp only[ev,ha]⟩
  ·cases h
 |global g=>
  simp only[ev]at h;cases hb:Nat.blt g C.NG with
  |false=>rw[hb]at h;cases h
  |true=>rw[hb]at h;exact⟨_,h,fun K2=>by simp only[ev,hb,cond_true]⟩
 |func f=>exact⟨_,h,fun K2=>rfl⟩
theorem y53_:∀{xs:List Operand} {K:List AVal->Option Rt},evs C e xs K=some r->∃a,K a=some r/\∀{R2:Type} (K2:List AVal->Option R2),evs C e xs K2=K2 a
 |[],K,h=>⟨[],h,fun K2=>rfl⟩
 |x::xs,K,h=>by
  simp only[evs]at h;obtain⟨a,h1,h2⟩:=y6_ h;obtain⟨b,h3,h4⟩:=y53_ h1;exact⟨a::b,h3,fun K2=>by simp only[evs];rw[h2,h4]⟩
theorem yp_{k:Kd}{v:AVal}{K:k.ty->Option Rt}(h:asK k v K=some r):∃a,K a=some r/\∀{R2:Type} (K2:k.ty->Option R2),asK k v K2=K2 a:=by
 obtain⟨x,h1,h2⟩:=yg_ h;refine⟨x,h2,fun K2=>?_⟩;subst h1;cases k with
 |I k=>simp[asK,Kd.val]
 |B=>rfl
 |S=>rfl
 |V=>rfl
theorem ygp_{v:AVal}{X:Option Rt}(h:scal v X=some r):X=some r/\∀{R2:Type} (X2:Option R2),scal v X2=X2:=by
 obtain⟨h1,h2⟩:=yap_ h;exact⟨h1,fun X2=>by cases v<;>first|rfl|cases h2⟩
theorem yfu_{v:AVal}{X:Option Rt}(h:nilck v X=some r):X=some r/\∀{R2:Type} (X2:Option R2),nilck v X2=X2:=by
 unfold nilck at h
 split at h<;>first|exact⟨h,fun X2=>rfl⟩|cases h
theorem yi8_{v:AVal}{o:Nat}{K:AVal->Option Rt}(h:fld v o K=some r):∃a,K a=some r/\∀{R2:Type} (K2:AVal->Option R2),fld v o K2=K2 a:=by
 unfold fld at h
 split at h<;>first|exact⟨_,h,fun K2=>rfl⟩|cases h
theorem yit_{v:AVal}{sz:Nat}{i:Int}{K:AVal->Option Rt}(h:ixA σ v sz i K=some r):∃a,K a=some r/\∀{R2:Type} (K2:AVal->Option R2),ixA σ v sz i K2=K2 a:=by
 unfold ixA at h
 split at h
 ·split at h
  ·rename_i hg
   split at h
   ·rename_i hc;exact⟨_,h,fun K2=>by simp only[ixA,hg];rw[if_pos hc]⟩
   ·cases h
  ·cases h
 ·cases h
theorem yhz_{v:AVal}{n sz:Nat}{i:Int}{K:AVal->Option Rt}(h:ixP v n sz i K=some r):∃a,K a=some r/\∀{R2:Type} (K2:AVal->Option R2),ixP v n sz i K2=K2 a:=by
 unfold ixP at h
 split at h
 ·split at h
  ·rename_i hc;exact⟨_,h,fun K2=>by simp only[ixP];rw[if_pos hc]⟩
  ·cases h
 ·cases h
theorem yjz_{a:AVal}{k:Kd}{K:k.ty->Option Rt}(h:ld σ a k K=some r):∃x,K x=some r/\∀{R2:Type} (K2:k.ty->Option R2),ld σ a k K2=K2 x:=by
 unfold ld at h
 split at h
 ·split at h
  ·rename_i v hv
   obtain⟨x,h1,h2⟩:=yp_ h;exact⟨x,h1,fun K2=>by simp only[ld,hv];exact h2 K2⟩
  ·cases h
 ·cases h
theorem yiq_{a:AVal}{n:Nat}{K:AVal->Option Rt}(h:ldG σ a n K=some r):∃x,K x=some r/\∀{R2:Type} (K2:AVal->Option R2),ldG σ a n K2=K2 x:=by
 unfold ldG at h
 split at h
 ·split at h
  ·rename_i hv
   split at h
   ·rename_i hc;exact⟨_,h,fun K2=>by simp only[ldG,hv];rw[if_pos hc]⟩
   ·cases h
  ·cases h
 ·cases h
theorem y9p_{a:AVal}{vs:List AVal}{K:Heap->Option Rt}(h:stC σ a vs K=some r):∃σ',K σ'=some r/\(∀{R2:Type} (K2:Heap->Option R2),stC σ a vs K2=K2 σ')/\Grw σ σ':=by
 unfold stC at h
 split at h
 ·split at h
  ·rename_i hv
   split at h
   ·rename_i hc;exact⟨_,h,fun K2=>by simp only[stC,hv];rw[if_pos hc],Grw.set rfl⟩
   ·cases h
  ·cases h
 ·cases h
theorem ygo_{v:AVal}{n:Nat}{K:List AVal->Option Rt}(h:aggK v n K=some r):∃x,K x=some r/\∀{R2:Type} (K2:List AVal->Option R2),aggK v n K2=K2 x:=by
 unfold aggK at h
 split at h
 ·split at h
  ·rename_i hc;exact⟨_,h,fun K2=>by simp only[aggK];rw[if_pos hc]⟩
  ·cases h
 ·cases h
theorem y3r_{i:TI}{v:AVal}{K:List AVal->Option Rt}(h:y1x_ i v K=some r):∃x,K x=some r/\∀{R2:Type} (K2:List AVal->Option R2),y1x_ i v K2=K2 x:=by
 unfold y1x_ at h;cases hb:isAg i.tk with
 |true=>
  rw[hb]at h;obtain⟨x,h1,h2⟩:=ygo_ h;exact⟨x,h1,fun K2=>by simp only[y1x_,hb,cond_true];exact h2 K2⟩
 | false=>
  rw[hb]at h;simp only[cond_false]at h;cases hn:Nat.beq i.size 1 with
  |false=>rw[hn]at h;cases h
  |true=>
   rw[hn]at h;simp only[cond_true]at h;obtain⟨h1,h2⟩:=ygp_ h;exact⟨_,h1,fun K2=>by simp only[y1x_,hb,cond_false,hn,cond_true];exact h2 _⟩
theorem yhx_{v:AVal}{o:Nat}{k:Kd}{K:k.ty->Option Rt}(h:agS v o k K=some r):∃x,K x=some r/\∀{R2:Type} (K2:k.ty->Option R2),agS v o k K2=K2 x:=by
 unfold agS at h
 split at h
 ·split at h
  ·rename_i u hu
   obtain⟨x,h1,h2⟩:=yp_ h;exact⟨x,h1,fun K2=>by simp only[agS,hu];exact h2 K2⟩
  ·cases h
 ·cases h
theorem yjb_{v:AVal}{o n:Nat}{K:AVal->Option Rt}(h:agG v o n K=some r):∃x,K x=some r/\∀{R2:Type} (K2:AVal->Option R2),agG v o n K2=K2 x:=by
 unfold agG at h
 split at h
 ·split at h
  ·rename_i hc;exact⟨_,h,fun K2=>by simp only[agG];rw[if_pos hc]⟩
  ·cases h
 ·cases h
theorem ya4_{i:TI}{v:AVal}{o:Nat}{K:AVal->Option Rt}(h:partK i v o K=some r):∃x,K x=some r/\∀{R2:Type} (K2:AVal->Option R2),partK i v o K2=K2 x:=by
 unfold partK at h;cases hb:isAg i.tk with
 |true=>
  rw[hb]at h;obtain⟨x,h1,h2⟩:=yjb_ h;exact⟨x,h1,fun K2=>by simp only[partK,hb,cond_true];exact h2 K2⟩
 |false=>
  rw[hb]at h;obtain⟨x,h1,h2⟩:=yhx_ h;exact⟨_,h1,fun K2=>by simp only[partK,hb,cond_false];exact h2 _⟩
theorem y60_{i:TI}{a:AVal}{K:AVal->Option Rt}(h:loadK i σ a K=some r):∃x,K x=some r/\∀{R2:Type} (K2:AVal->Option R2),loadK i σ a K2=K2 x:=by
 unfold loadK at h;cases hb:isAg i.tk with
 |true=>
  rw[hb]at h;obtain⟨x,h1,h2⟩:=yiq_ h;exact⟨x,h1,fun K2=>by simp only[loadK,hb,cond_true];exact h2 K2⟩
 |false=>
  rw[hb]at h;obtain⟨x,h1,h2⟩:=yjz_ h;exact⟨_,h1,fun K2=>by simp only[loadK,hb,cond_false];exact h2 _⟩
theorem y3l_{place:Nat->Option (Nat×TypeId)}:∀{ps:List (Nat×Operand)} {cs:List AVal} {K:List AVal->Option Rt},fillK C place e cs ps K=some r->∃x,K x=some r/\∀{R2:Type} (K2:List AVal->Option R2),fillK C place e cs ps K2=K2 x
 |[],cs,K,h=>⟨cs,h,fun K2=>rfl⟩
 | (i,x)::ps,cs,K,h=>by
  simp only[fillK]at h
  split at h
  ·rename_i off t hp
   obtain⟨ti,h1,e1⟩:=y7_ h;obtain⟨v,h2,e2⟩:=y6_ h1;obtain⟨vs,h3,e3⟩:=y3r_ h2
   split at h3
   ·rename_i hc
    obtain⟨z,h4,e4⟩:=y3l_ h3;exact⟨z,h4,fun K2=>by simp only[fillK,hp];rw[e1,e2,e3,if_pos hc,e4]⟩
   ·cases h3
  ·cases h
theorem y1q_{v:AVal}{K:Int->Option Rt}(h:intK v K=some r):∃x,K x=some r/\∀{R2:Type} (K2:Int->Option R2),intK v K2=K2 x:=by
 unfold intK at h
 split at h<;>first|exact⟨_,h,fun K2=>rfl⟩|cases h
theorem y5f_{x:Option Operand}{K:Option Int->Option Rt}(h:optK C e x K=some r):∃z,K z=some r/\∀{R2:Type} (K2:Option Int->Option R2),optK C e x K2=K2 z:=by
 cases x with
 |none=>exact⟨none,h,fun K2=>rfl⟩
 |some x=>
  simp only[optK]at h;obtain⟨v,h1,e1⟩:=y6_ h;obtain⟨n,h2,e2⟩:=y1q_ h1;exact⟨some n,h2,fun K2=>by simp only[optK];rw[e1,e2]⟩
theorem yhc_{op:BinOp}{k:IntKind}{x y:Int}{K:AVal->Option Rt}(h:binI op k x y K=some r):∃z,K z=some r/\∀{R2:Type} (K2:AVal->Option R2),binI op k x y K2=K2 z:=by
  cases op<;>simp only[binI]at h<;>first
    |cases h
    |exact⟨_,h,fun K2=>rfl⟩
    | (split at h
       · cases h
       · rename_i hy;exact⟨_,h,fun K2=>by simp only[binI];rw[if_neg hy]⟩)
theorem yd9_{op:BinOp}{k:IntKind}{x y:Int}{K:AVal->Option Rt}(h:shI op k x y K=some r):∃z,K z=some r/\∀{R2:Type} (K2:AVal->Option R2),shI op k x y K2=K2 z:=by
 unfold shI at h
 split at h
 ·cases h
 ·rename_i hy
  split at h<;>first|cases h|exact⟨_,h,fun K2=>by simp only[shI];rw[if_neg hy]⟩
theorem yd6_{x y:AVal}{K:Bool->Option Rt}(h:eqP x y K=some r):∃z,K z=some r/\∀{R2:Type} (K2:Bool->Option R2),eqP x y K2=K2 z:=by
  unfold eqP at h
  split at h<;>first
    |cases h
    |exact⟨_,h,fun K2=>rfl⟩
    | (split at h
       · rename_i hc;exact⟨_,h,fun K2=>by simp only[eqP];rw[if_pos hc]⟩
       · cases h)
theorem ydd_{x y:AVal}{K:Bool->Option Rt}(h:eqS x y K=some r):∃z,K z=some r/\∀{R2:Type} (K2:Bool->Option R2),eqS x y K2=K2 z:=by
 unfold eqS at h
 split at h<;>first|cases h|exact⟨_,h,fun K2=>rfl⟩
theorem ydg_{x y:AVal}{K:Bool->Option Rt}(h:eqM x y K=some r):∃z,K z=some r/\∀{R2:Type} (K2:Bool->Option R2),eqM x y K2=K2 z:=by
 unfold eqM at h
 split at h<;>first|cases h|exact⟨_,h,fun K2=>rfl⟩
theorem yds_{x y:AVal}{K:Bool->Option Rt}(h:eqF x y K=some r):∃z,K z=some r/\∀{R2:Type} (K2:Bool->Option R2),eqF x y K2=K2 z:=by
 unfold eqF at h
 split at h<;>first|cases h|exact⟨_,h,fun K2=>rfl⟩
theorem ydj_{T:TypeId->Option TI}{cn:Bool}{x y:AVal}{K:Bool->Option Rt}(h:eqI T σ cn x y K=some r):∃z,K z=some r/\∀{R2:Type} (K2:Bool->Option R2),eqI T σ cn x y K2=K2 z:=by
 unfold eqI at h
 split at h
 ·cases cn with
  |true=>exact⟨_,h,fun K2=>rfl⟩
  |false=>cases h
 ·exact⟨_,h,fun K2=>rfl⟩
 ·exact⟨_,h,fun K2=>rfl⟩
 ·split at h
  ·rename_i e1
   split at h
   ·rename_i ti hti
    split at h
    ·rename_i el htk
     split at h
     ·rename_i ei hei
      cases hb:(Nat.beq ei.size 0 || !ti.cmp) with
      |true=>rw[hb]at h;cases h
      | false=>
       rw[hb]at h;simp only[cond_false]at h
       split at h
       ·rename_i e2;exact⟨_,h,fun K2=>by simp only[eqI];rw[if_pos e1,hti];simp only[htk,hei,hb,cond_false];rw[if_pos e2]⟩
       ·rename_i e2
        split at h
        ·rename_i hg hg'
         split at h
         ·rename_i hc;exact⟨_,h,fun K2=>by simp only[eqI];rw[if_pos e1,hti];simp only[htk,hei,hb,cond_false];rw[if_neg e2,hg,hg'];simp only[];rw[if_pos hc]⟩
         ·cases h
        ·cases h
     ·cases h
    ·cases h
   ·cases h
  ·rename_i e1;exact⟨_,h,fun K2=>by simp only[eqI];rw[if_neg e1]⟩
 ·cases h
theorem ybz_{v:AVal}{K:Int->Option Rt}(h:lenV v K=some r):∃z,K z=some r/\∀{R2:Type} (K2:Int->Option R2),lenV v K2=K2 z:=by
 unfold lenV at h
 split at h<;>first|cases h|exact⟨_,h,fun K2=>rfl⟩
theorem yh0_{v:AVal}{K:Int->Option Rt}(h:lenM σ v K=some r):∃z,K z=some r/\∀{R2:Type} (K2:Int->Option R2),lenM σ v K2=K2 z:=by
 unfold lenM at h
 split at h
 ·split at h
  ·rename_i hg;exact⟨_,h,fun K2=>by simp only[lenM,hg]⟩
  ·cases h
 ·exact⟨_,h,fun K2=>rfl⟩
 ·cases h
theorem yhi_{sz:Nat}{v:AVal}{K:List AVal->Nat->Option Rt}(h:srcK σ sz v K=some r):∃xs n,K xs n=some r/\∀{R2:Type} (K2:List AVal->Nat->Option R2),srcK σ sz v K2=K2 xs n:=by
 unfold srcK at h
 split at h
 ·exact⟨_,_,h,fun K2=>rfl⟩
 ·split at h
  ·rename_i hg
   split at h
   ·rename_i hc;exact⟨_,_,h,fun K2=>by simp only[srcK,hg];rw[if_pos hc]⟩
   ·cases h
  ·cases h
 ·cases h
theorem yiw_{sz b:Nat}{z:List AVal}{l c:Int}{K:AVal->Heap->Option Rt}(h:mkS σ sz b z l c K=some r):∃v σ',K v σ'=some r/\(∀{R2:Type} (K2:AVal->Heap->Option R2),mkS σ sz b z l c K2=K2 v σ')/\Grw σ σ':=by
 unfold mkS at h
 split at h
 ·rename_i hc;exact⟨_,_,h,fun K2=>by simp only[mkS];rw[if_pos hc];rfl,Grw.new rfl⟩
 ·cases h
theorem ybo_{sz b:Nat}{s:AVal}{xs:List AVal}{n:Nat}{K:AVal->Heap->Option Rt}(h:appC σ sz b s xs n K=some r):∃v σ',K v σ'=some r/\(∀{R2:Type} (K2:AVal->Heap->Option R2),appC σ sz b s xs n K2=K2 v σ')/\Grw σ σ':=by
 unfold appC at h
 split at h
 ·split at h
  ·rename_i hc;exact⟨_,_,h,fun K2=>by simp only[appC];rw[if_pos hc],Grw.refl _⟩
  ·rename_i hc
   split at h
   ·rename_i hd;exact⟨_,_,h,fun K2=>by simp only[appC];rw[if_neg hc,if_pos hd];rfl,Grw.new rfl⟩
   ·cases h
 ·rename_i l off len c
  split at h
  ·rename_i hg
   split at h
   ·rename_i h1
    split at h
    ·rename_i h2;exact⟨_,_,h,fun K2=>by simp only[appC,hg];rw[if_pos h1,if_pos h2],Grw.refl _⟩
    ·rename_i h2
     split at h
     ·rename_i h3
      cases c with
      | some k=>
       simp only at h
       split at h
       ·rename_i h4
        split at h
        ·rename_i h5;exact⟨_,_,h,fun K2=>by simp only[appC,hg];rw[if_pos h1,if_neg h2,if_pos h3,if_pos h4,if_pos h5],Grw.set rfl⟩
        ·cases h
       ·rename_i h4;exact⟨_,_,h,fun K2=>by simp only[appC,hg];rw[if_pos h1,if_neg h2,if_pos h3,if_neg h4];rfl,Grw.new rfl⟩
      | none=>
       simp only at h
       split at h
       ·rename_i h4
        split at h
        ·rename_i h5;exact⟨_,_,h,fun K2=>by simp only[appC,hg];rw[if_pos h1,if_neg h2,if_pos h3,if_pos h4,if_pos h5],Grw.set rfl⟩
        ·rename_i h5;exact⟨_,_,h,fun K2=>by simp only[appC,hg];rw[if_pos h1,if_neg h2,if_pos h3,if_pos h4,if_neg h5];rfl,(Grw.kill _).trans (Grw.new rfl)⟩
       ·cases h
     ·cases h
   ·cases h
  ·cases h
 ·cases h
theorem yip_{sz:Nat}{v:AVal}{lo:Int}{hi mx:Option Int}{K:AVal->Option Rt}(h:slS σ sz v lo hi mx K=some r):∃z,K z=some r/\∀{R2:Type} (K2:AVal->Option R2),slS σ sz v lo hi mx K2=K2 z:=by
 unfold slS at h
 split at h
 ·split at h
  ·rename_i hc;exact⟨_,h,fun K2=>by simp only[slS];rw[if_pos hc]⟩
  ·cases h
 ·split at h
  ·rename_i hg
   split at h
   ·rename_i hc;exact⟨_,h,fun K2=>by simp only[slS,hg];rw[if_pos hc]⟩
   ·cases h
  ·cases h
 ·cases h
theorem yio_{s:ByteArray}{lo:Int}{hi:Option Int}{K:ByteArray->Option Rt}(h:slB s lo hi K=some r):∃z,K z=some r/\∀{R2:Type} (K2:ByteArray->Option R2),slB s lo hi K2=K2 z:=by
 unfold slB at h
 split at h
 ·rename_i hc;exact⟨_,h,fun K2=>by simp only[slB];rw[if_pos hc]⟩
 ·cases h
theorem yht_{s:ByteArray}{i:Int}{K:Int->Option Rt}(h:ixB s i K=some r):∃z,K z=some r/\∀{R2:Type} (K2:Int->Option R2),ixB s i K2=K2 z:=by
 unfold ixB at h
 split at h
 ·rename_i hc
  split at h
  ·rename_i b hb;exact⟨_,h,fun K2=>by simp only[ixB];rw[if_pos hc,hb]⟩
  ·cases h
 ·cases h
theorem yhj_{v:AVal}{i:Nat}{K:AVal->Option Rt}(h:tupK v i K=some r):∃z,K z=some r/\∀{R2:Type} (K2:AVal->Option R2),tupK v i K2=K2 z:=by
 unfold tupK at h
 split at h
 ·split at h
  ·rename_i hx;exact⟨_,h,fun K2=>by simp only[tupK,hx]⟩
  ·cases h
 ·cases h
theorem y9w_{X:Option Rt}:∀{fs:List (Nat×TypeId)},allTi C fs X=some r->X=some r/\∀{R2:Type} (X2:Option R2),allTi C fs X2=X2
 |[],h=>⟨h,fun X2=>rfl⟩
 |f::fs,h=>by
  simp only[allTi]at h;obtain⟨ti,h1,e1⟩:=y7_ h;obtain⟨h2,e2⟩:=y9w_ h1;exact⟨h2,fun X2=>by simp only[allTi];rw[e1,e2]⟩
theorem ydz_{s:Option Spec}(hN:∀s',s=some s'->∀args σ v σ',s'.run args σ=some (v,σ')->Grw σ σ'){args:List AVal}{K:AVal->Heap->Option Rt}(h:yr_ s args σ K=some r) :
  ∃v σ',K v σ'=some r/\(∀{R2:Type} (K2:AVal->Heap->Option R2),yr_ s args σ K2=K2 v σ')/\Grw σ σ':=by
 cases s with
 |none=>cases h
 | some s=>
  rw[y3w_]at h;cases hr:s.run args σ with
  |none=>rw[hr]at h;cases h
  |some x=>
   rw[hr]at h;exact⟨x.1,x.2,h,fun K2=>by rw[y3w_,hr];rfl,hN s rfl args σ x.1 x.2 (by rw[hr])⟩
theorem yhk_{sz bytes:Nat}{z:List AVal}{v:AVal}{n:Int}{K:AVal->Heap->Option Rt}(h:appZ σ sz bytes z v n K=some r):∃u σ',K u σ'=some r/\(∀{R2:Type} (K2:AVal->Heap->Option R2),appZ σ sz bytes z v n K2=K2 u σ')/\Grw σ σ':=by
 unfold appZ at h
 split at h
 ·split at h
  ·rename_i e;exact⟨_,_,h,fun K2=>by simp only[appZ,if_pos e],Grw.refl _⟩
  ·rename_i e
   split at h
   ·rename_i e2;exact⟨_,_,h,fun K2=>by simp only[appZ,if_neg e,if_pos e2];rfl,Grw.new rfl⟩
   ·cases h
 ·cases h
theorem y83_{tk:TK}{v:AVal}{K:IntKind->Int->Option Rt}(h:keyK tk v K=some r):∃k n,K k n=some r/\∀{R2:Type} (K2:IntKind->Int->Option R2),keyK tk v K2=K2 k n:=by
 unfold keyK at h
 split at h
 ·split at h
  ·rename_i hk;exact⟨_,_,h,fun K2=>by simp only[keyK,if_pos hk]⟩
  ·cases h
 ·cases h
theorem y69_{ti:TI}{K:AVal->Option Rt}(h:zeroK ti K=some r):∃z,K z=some r/\∀{R2:Type} (K2:AVal->Option R2),zeroK ti K2=K2 z:=by
 unfold zeroK at h;cases hb:isAg ti.tk with
 |true=>rw[hb]at h;cases h
 |false=>
  rw[hb]at h;simp only[cond_false]at h
  split at h
  ·rename_i z hz;exact⟨z,h,fun K2=>by simp only[zeroK,hb,cond_false,hz]⟩
  ·cases h
theorem yft_{v:AVal}{k:IntKind}{n:Int}{K:Option AVal->Option Rt}(h:mgetK σ v k n K=some r):∃z,K z=some r/\∀{R2:Type} (K2:Option AVal->Option R2),mgetK σ v k n K2=K2 z:=by
 unfold mgetK at h
 split at h
 ·exact⟨_,h,fun K2=>rfl⟩
 ·split at h
  ·rename_i hg
   split at h
   ·rename_i j hf
    split at h
    ·rename_i x hx;exact⟨_,h,fun K2=>by simp only[mgetK,hg,hf,hx]⟩
    ·cases h
   ·rename_i hf;exact⟨_,h,fun K2=>by simp only[mgetK,hg,hf]⟩
   ·cases h
  ·cases h
 ·cases h
theorem yfv_{v x:AVal}{k:IntKind}{n:Int}{K:Heap->Option Rt}(h:mputK σ v k n x K=some r):∃σ',K σ'=some r/\(∀{R2:Type} (K2:Heap->Option R2),mputK σ v k n x K2=K2 σ')/\Grw σ σ':=by
 unfold mputK at h
 split at h
 ·split at h
  ·rename_i hg
   split at h
   ·rename_i j hf;exact⟨_,h,fun K2=>by simp only[mputK,hg,hf],Grw.set rfl⟩
   ·rename_i hf;exact⟨_,h,fun K2=>by simp only[mputK,hg,hf],Grw.set rfl⟩
   ·cases h
  ·cases h
 ·cases h
theorem yg1_{v:AVal}{k:IntKind}{n:Int}{K:Heap->Option Rt}(h:mdelK σ v k n K=some r):∃σ',K σ'=some r/\(∀{R2:Type} (K2:Heap->Option R2),mdelK σ v k n K2=K2 σ')/\Grw σ σ':=by
 unfold mdelK at h
 split at h
 ·exact⟨_,h,fun K2=>rfl,Grw.refl _⟩
 ·split at h
  ·rename_i hg
   split at h
   ·rename_i j hf;exact⟨_,h,fun K2=>by simp only[mdelK,hg,hf],Grw.set rfl⟩
   ·rename_i hf;exact⟨_,h,fun K2=>by simp only[mdelK,hg,hf],Grw.set rfl⟩
   ·cases h
  ·cases h
 ·cases h
theorem yi4_:∀(k:Kd) (x:k.ty) (K:k.ty->Option Rt),asK k (k.val x) K=K x
 | .I k,x,K=>by simp[asK,Kd.val]
 | .B,x,K=>rfl
 | .S,x,K=>rfl
 | .V,x,K=>rfl
theorem y89_{t:TypeId}{v:AVal}{K:AVal->Option Rt}(h:coeK C t v K=some r):K v=some r/\∀{R2:Type} (K2:AVal->Option R2),coeK C t v K2=K2 v:=by
 unfold coeK at h
 split at h
 ·rename_i ti ht
  cases hb:isAg ti.tk with
  |true=>rw[hb]at h;exact⟨h,fun K2=>by simp only[coeK,ht,hb,cond_true]⟩
  |false=>
   rw[hb]at h;simp only[cond_false]at h;obtain⟨x,h1,h2⟩:=yg_ h;obtain⟨y,h3,h4⟩:=yp_ h;subst h1;exact⟨h2,fun K2=>by simp only[coeK,ht,hb,cond_false];exact yi4_ _ _ _⟩
 ·rename_i ht;exact⟨h,fun K2=>by simp only[coeK,ht]⟩
theorem y7h_{t:TypeId}{v:AVal}{K:Option AVal->Option Rt}(h:y2a_ t v K=some r):∃z,K z=some r/\∀{R2:Type} (K2:Option AVal->Option R2),y2a_ t v K2=K2 z:=by
 unfold y2a_ at h
 split at h
 ·split at h
  ·rename_i e;exact⟨_,h,fun K2=>by simp only[y2a_,if_pos e]⟩
  ·rename_i e;exact⟨_,h,fun K2=>by simp only[y2a_,if_neg e]⟩
 ·exact⟨_,h,fun K2=>rfl⟩
 ·cases h
theorem yfn_{v z:AVal}{k:IntKind}{n:Int}{K:AVal->Bool->Option Rt}(h:mgetZ σ v k n z K=some r):∃x b,K x b=some r/\∀{R2:Type} (K2:AVal->Bool->Option R2),mgetZ σ v k n z K2=K2 x b:=by
 unfold mgetZ at h;obtain⟨y,h,e⟩:=yft_ h;cases y with
 |some x=>exact⟨x,true,h,fun K2=>by unfold mgetZ;rw[e]⟩
 |none=>exact⟨z,false,h,fun K2=>by unfold mgetZ;rw[e]⟩
theorem ycq_{t:TypeId}{v z:AVal}{K:AVal->Bool->Option Rt}(h:y34_ t v z K=some r):∃x b,K x b=some r/\∀{R2:Type} (K2:AVal->Bool->Option R2),y34_ t v z K2=K2 x b:=by
 unfold y34_ at h;obtain⟨y,h,e⟩:=y7h_ h;cases y with
 |some x=>exact⟨x,true,h,fun K2=>by unfold y34_;rw[e]⟩
 |none=>exact⟨z,false,h,fun K2=>by unfold y34_;rw[e]⟩
theorem ye6_{sz:Nat}{z:List AVal}{v:AVal}{K:Heap->Option Rt}(h:y1s_ σ sz z v K=some r):∃σ',K σ'=some r/\(∀{R2:Type} (K2:Heap->Option R2),y1s_ σ sz z v K2=K2 σ')/\Grw σ σ':=by
 unfold y1s_ at h
 split at h
 ·exact⟨_,h,fun K2=>rfl,Grw.refl _⟩
 ·split at h
  ·rename_i e;exact⟨_,h,fun K2=>by simp only[y1s_,if_pos e],Grw.refl _⟩
  ·rename_i e
   split at h
   ·rename_i hg
    split at h
    ·rename_i e2
     obtain⟨σ',h,e3,hn⟩:=y9p_ h;exact⟨σ',h,fun K2=>by simp only[y1s_,if_neg e,hg,if_pos e2];rw[e3],hn⟩
    ·cases h
   ·cases h
 ·cases h
theorem yhh_{v:AVal}{K:Int->Option Rt}(h:capV v K=some r):∃z,K z=some r/\∀{R2:Type} (K2:Int->Option R2),capV v K2=K2 z:=by
 unfold capV at h
 split at h
 ·exact⟨_,h,fun K2=>rfl⟩
 ·exact⟨_,h,fun K2=>rfl⟩
 ·cases h
theorem yb2_{T:TypeId->Option TI}{tk:TK}{v:AVal}{K:Int->Int->Option Rt}(h:key2K T tk v K=some r):∃a b,K a b=some r/\∀{R2:Type} (K2:Int->Int->Option R2),key2K T tk v K2=K2 a b:=by
 unfold key2K at h
 split at h
 ·rename_i n el
  split at h
  ·rename_i ei he
   split at h
   ·rename_i hk
    cases hb:(Nat.beq n 2&&Nat.beq ei.size 1) with
    |false=>rw[hb]at h;cases h
    |true=>
     rw[hb]at h;simp only[cond_true]at h
     split at h
     ·exact⟨_,_,h,fun K2=>by simp only[key2K,he,hk,hb,cond_true]⟩
     ·cases h
   ·cases h
  ·cases h
 ·cases h
theorem yeu_{v:AVal}{a b:Int}{K:Option AVal->Option Rt}(h:y2u_ σ v a b K=some r):∃z,K z=some r/\∀{R2:Type} (K2:Option AVal->Option R2),y2u_ σ v a b K2=K2 z:=by
 unfold y2u_ at h
 split at h
 ·exact⟨_,h,fun K2=>rfl⟩
 ·split at h
  ·rename_i hg
   split at h
   ·rename_i j hf
    split at h
    ·rename_i x hx;exact⟨_,h,fun K2=>by simp only[y2u_,hg,hf,hx]⟩
    ·cases h
   ·rename_i hf;exact⟨_,h,fun K2=>by simp only[y2u_,hg,hf]⟩
   ·cases h
  ·cases h
 ·cases h
theorem yew_{v z:AVal}{a b:Int}{K:AVal->Bool->Option Rt}(h:y2b_ σ v a b z K=some r):∃x b',K x b'=some r/\∀{R2:Type} (K2:AVal->Bool->Option R2),y2b_ σ v a b z K2=K2 x b':=by
 unfold y2b_ at h;obtain⟨y,h,e⟩:=yeu_ h;cases y with
 |some x=>exact⟨x,true,h,fun K2=>by unfold y2b_;rw[e]⟩
 |none=>exact⟨z,false,h,fun K2=>by unfold y2b_;rw[e]⟩
theorem yeq_{v x:AVal}{a b:Int}{K:Heap->Option Rt}(h:y1y_ σ v a b x K=some r):∃σ',K σ'=some r/\(∀{R2:Type} (K2:Heap->Option R2),y1y_ σ v a b x K2=K2 σ')/\Grw σ σ':=by
 unfold y1y_ at h
 split at h
 ·split at h
  ·rename_i hg
   split at h
   ·rename_i j hf;exact⟨_,h,fun K2=>by simp only[y1y_,hg,hf],Grw.set rfl⟩
   ·rename_i hf;exact⟨_,h,fun K2=>by simp only[y1y_,hg,hf],Grw.set rfl⟩
   ·cases h
  ·cases h
 ·cases h
theorem yfp_{sz:Nat}{d s:AVal}{K:Nat->Heap->Option Rt}(h:copyK σ sz d s K=some r):∃n σ',K n σ'=some r/\(∀{R2:Type} (K2:Nat->Heap->Option R2),copyK σ sz d s K2=K2 n σ')/\Grw σ σ':=by
 unfold copyK at h
 split at h
 ·obtain⟨n,h,e⟩:=ybz_ h
  exact⟨0,σ,h,fun K2=>by simp only[copyK];rw[e],Grw.refl _⟩
 ·split at h
  ·exact⟨0,σ,h,fun K2=>rfl,Grw.refl _⟩
  ·split at h
   ·rename_i hg2
    split at h
    ·rename_i hc
     split at h
     ·rename_i h0;exact⟨0,σ,h,fun K2=>by simp only[copyK,hg2,if_pos hc,if_pos h0],Grw.refl _⟩
     ·rename_i h0
      split at h
      ·rename_i hg
       split at h
       ·rename_i hsz
        obtain⟨σ',h,e3,hn⟩:=y9p_ h;exact⟨_,σ',h,fun K2=>by simp only[copyK,hg2,if_pos hc,if_neg h0,hg,if_pos hsz];rw[e3],hn⟩
       ·cases h
      ·cases h
    ·cases h
   ·cases h
  ·cases h
 ·cases h
theorem ybg_{t:TypeId}{x i y:Operand}{K:AVal->Heap->Option Rt}(h:mupK C e t x i y σ K=some r):∃v σ',K v σ'=some r/\(∀{R2:Type} (K2:AVal->Heap->Option R2),mupK C e t x i y σ K2=K2 v σ')/\Grw σ σ':=by
 unfold mupK at h;obtain⟨ti,h,e1⟩:=y7_ h
 split at h
 ·rename_i kt et hk
  obtain⟨ki,h,e2⟩:=y7_ h;obtain⟨v,h,e3⟩:=y6_ h;obtain⟨u,h,e4⟩:=y6_ h;obtain⟨z,h,e5⟩:=y6_ h;cases hag:isAg ki.tk with
  |false=>
   rw[hag]at h;simp only[cond_false]at h;obtain⟨k,n,h,e6⟩:=y83_ h;obtain⟨σ',h,e7,hn⟩:=yfv_ h;exact⟨_,σ',h,fun K2=>by simp only[mupK];rw[e1];simp only[hk];rw[e2,e3,e4,e5];simp only[hag,cond_false];rw[e6,e7],hn⟩
  |true=>
   rw[hag]at h;simp only[cond_true]at h;obtain⟨a,b,h,e6⟩:=yb2_ h;obtain⟨σ',h,e7,hn⟩:=yeq_ h;exact⟨_,σ',h,fun K2=>by simp only[mupK];rw[e1];simp only[hk];rw[e2,e3,e4,e5];simp only[hag,cond_true];rw[e6,e7],hn⟩
 ·cases h
theorem yj3_{b:Builtin}{ts:List TypeId}{args:List Operand}{K:AVal->Heap->Option Rt}(h:biK C e b ts args σ K=some r) :
  ∃v σ',K v σ'=some r/\(∀{R2:Type} (K2:AVal->Heap->Option R2),biK C e b ts args σ K2=K2 v σ')/\Grw σ σ':=by
 unfold biK at h
 split at h
 ·obtain⟨ti,h,e1⟩:=y7_ h
  obtain⟨v,h,e2⟩:=y6_ h
  split at h
  ·rename_i el hk
   obtain⟨n,h,e3⟩:=ybz_ h;exact⟨_,σ,h,fun K2=>by simp only[biK];rw[e1,e2];simp only[hk];rw[e3],Grw.refl _⟩
  ·rename_i hk
   obtain⟨n,h,e3⟩:=yp_ h;exact⟨_,σ,h,fun K2=>by simp only[biK];rw[e1,e2];simp only[hk];rw[e3],Grw.refl _⟩
  ·rename_i k el hk
   obtain⟨n,h,e3⟩:=yh0_ h;exact⟨_,σ,h,fun K2=>by simp only[biK];rw[e1,e2];simp only[hk];rw[e3],Grw.refl _⟩
  ·cases h
 ·obtain⟨ti,h,e1⟩:=y7_ h
  obtain⟨s,h,e2⟩:=y6_ h;obtain⟨v,h,e3⟩:=y6_ h
  split at h
  ·rename_i el hk
   obtain⟨ei,h,e4⟩:=y7_ h;obtain⟨ui,h,e5⟩:=y7_ h
   split at h
   ·rename_i el2 hk2
    unfold appS at h;obtain⟨xs,n,h,e6⟩:=yhi_ h;obtain⟨u,σ',h,e7,hn⟩:=ybo_ h;exact⟨u,σ',h,fun K2=>by simp only[biK];rw[e1,e2,e3];simp only[hk];rw[e4,e5];simp only[hk2,appS];rw[e6,e7],hn⟩
   ·rename_i hk2
    cases hb:(Nat.beq ei.size 1&&Nat.beq ei.bytes 1) with
    |false=>rw[hb]at h;cases h
    | true=>
     rw[hb]at h;simp only[cond_true]at h;obtain⟨x,h,e6⟩:=yp_ h;unfold appB at h
     split at h
     ·rename_i hc
      obtain⟨u,σ',h,e7,hn⟩:=ybo_ h;exact⟨u,σ',h,fun K2=>by simp only[biK];rw[e1,e2,e3];simp only[hk];rw[e4,e5];simp only[hk2,hb,cond_true];rw[e6];unfold appB;rw[if_pos hc,e7],hn⟩
     ·cases h
   ·rename_i kk hk2
    obtain⟨x,h,e6⟩:=yp_ h;obtain⟨u,σ',h,e7,hn⟩:=yhk_ h;exact⟨u,σ',h,fun K2=>by simp only[biK];rw[e1,e2,e3];simp only[hk];rw[e4,e5];simp only[hk2];rw[e6,e7],hn⟩
   ·cases h
  ·cases h
 ·obtain⟨ti,h,e1⟩:=y7_ h
  split at h
  ·rename_i el hk
   obtain⟨ei,h,e2⟩:=y7_ h;obtain⟨v,h,e3⟩:=y6_ h;obtain⟨σ',h,e4,hn⟩:=ye6_ h;exact⟨_,σ',h,fun K2=>by simp only[biK];rw[e1];simp only[hk];rw[e2,e3,e4],hn⟩
  ·cases h
 ·obtain⟨ti,h,e1⟩:=y7_ h
  obtain⟨v,h,e2⟩:=y6_ h;obtain⟨u,h,e3⟩:=y6_ h
  split at h
  ·rename_i el hk
   obtain⟨ei,h,e4⟩:=y7_ h;obtain⟨n,σ',h,e5,hn⟩:=yfp_ h;exact⟨_,σ',h,fun K2=>by simp only[biK];rw[e1,e2,e3];simp only[hk];rw[e4,e5],hn⟩
  ·cases h
 ·obtain⟨ti,h,e1⟩:=y7_ h
  split at h
  ·rename_i el hk
   obtain⟨v,h,e2⟩:=y6_ h;obtain⟨n,h,e3⟩:=yhh_ h;exact⟨_,σ,h,fun K2=>by simp only[biK];rw[e1];simp only[hk];rw[e2,e3],Grw.refl _⟩
  ·cases h
 ·obtain⟨ti,h,e1⟩:=y7_ h
  split at h
  ·rename_i kt et hk
   obtain⟨ki,h,e2⟩:=y7_ h;obtain⟨v,h,e3⟩:=y6_ h;obtain⟨u,h,e4⟩:=y6_ h;obtain⟨k,n,h,e5⟩:=y83_ h;obtain⟨σ',h,e6,hn⟩:=yg1_ h;exact⟨_,σ',h,fun K2=>by simp only[biK];rw[e1];simp only[hk];rw[e2,e3,e4,e5,e6],hn⟩
  ·cases h
 ·obtain⟨v,h,e1⟩:=y6_ h
  obtain⟨u,h,e2⟩:=y6_ h
  split at h
  ·exact⟨_,σ,h,fun K2=>by simp only[biK];rw[e1,e2],Grw.refl _⟩
  ·cases h
 ·obtain⟨v,h,e1⟩:=y6_ h
  obtain⟨u,h,e2⟩:=y6_ h
  split at h
  ·exact⟨_,σ,h,fun K2=>by simp only[biK];rw[e1,e2],Grw.refl _⟩
  ·cases h
 ·cases h
theorem ygu_{op:BinOp}{ti:TI}{cn:Bool}{x y:AVal}{K:AVal->Option Rt}(h:binK C op ti σ cn x y K=some r):∃z,K z=some r/\∀{R2:Type} (K2:AVal->Option R2),binK C op ti σ cn x y K2=K2 z:=by
 unfold binK at h
 split at h
 ·rename_i hk
  split at h
  ·split at h
   ·obtain⟨z,h,e1⟩:=yd9_ h
    exact⟨z,h,fun K2=>by simp only[binK,hk];exact e1 K2⟩
   ·obtain⟨z,h,e1⟩:=yd9_ h
    exact⟨z,h,fun K2=>by simp only[binK,hk];exact e1 K2⟩
   ·rename_i n1 n2
    split at h
    ·rename_i hc
     obtain⟨z,h,e1⟩:=yhc_ h;refine⟨z,h,fun K2=>?_⟩;simp only[binK,hk];cases op<;>first|(exact absurd rfl n1)|(exact absurd rfl n2)|(rw[if_pos hc];exact e1 K2)
    ·cases h
  ·cases h
 ·rename_i hk
  split at h
  ·exact⟨_,h,fun K2=>by simp only[binK,hk]⟩
  ·exact⟨_,h,fun K2=>by simp only[binK,hk]⟩
  ·split at h
   ·rename_i hsz;exact⟨_,h,fun K2=>by simp only[binK,hk,if_pos hsz]⟩
   ·cases h
  ·cases h
 ·rename_i hk
  split at h
  ·exact⟨_,h,fun K2=>by simp only[binK,hk]⟩
  ·exact⟨_,h,fun K2=>by simp only[binK,hk]⟩
  ·cases h
 ·rename_i el hk
  obtain⟨ei,h,e1⟩:=y7_ h;cases hb:Nat.beq ei.size 0 with
  |true=>rw[hb]at h;cases h
  | false=>
   rw[hb]at h;simp only[cond_false]at h
   split at h
   ·obtain⟨z,h,e2⟩:=yd6_ h
    exact⟨_,h,fun K2=>by simp only[binK,hk];rw[e1];simp only[hb,cond_false];rw[e2]⟩
   ·obtain⟨z,h,e2⟩:=yd6_ h
    exact⟨_,h,fun K2=>by simp only[binK,hk];rw[e1];simp only[hb,cond_false];rw[e2]⟩
   ·cases h
 ·rename_i el hk
  split at h
  ·obtain⟨z,h,e2⟩:=ydd_ h
   exact⟨_,h,fun K2=>by simp only[binK,hk];rw[e2]⟩
  ·obtain⟨z,h,e2⟩:=ydd_ h
   exact⟨_,h,fun K2=>by simp only[binK,hk];rw[e2]⟩
  ·cases h
 ·rename_i k el hk
  split at h
  ·obtain⟨z,h,e2⟩:=ydg_ h
   exact⟨_,h,fun K2=>by simp only[binK,hk];rw[e2]⟩
  ·obtain⟨z,h,e2⟩:=ydg_ h
   exact⟨_,h,fun K2=>by simp only[binK,hk];rw[e2]⟩
  ·cases h
 ·rename_i hk
  split at h
  ·obtain⟨z,h,e2⟩:=yds_ h
   exact⟨_,h,fun K2=>by simp only[binK,hk];rw[e2]⟩
  ·obtain⟨z,h,e2⟩:=yds_ h
   exact⟨_,h,fun K2=>by simp only[binK,hk];rw[e2]⟩
  ·cases h
 ·rename_i bm hk
  split at h
  ·obtain⟨z,h,e2⟩:=ydj_ h
   exact⟨_,h,fun K2=>by simp only[binK,hk];rw[e2]⟩
  ·obtain⟨z,h,e2⟩:=ydj_ h
   exact⟨_,h,fun K2=>by simp only[binK,hk];rw[e2]⟩
  ·cases h
 ·cases h
theorem y21_(hN:∀f s,C.calls f=some s->∀args σ v σ',s.run args σ=some (v,σ')->Grw σ σ'){o:Oper}{K:AVal->Heap->Option Rt}(h:dop C e o σ K=some r) :
  ∃v σ',K v σ'=some r/\(∀{R2:Type} (K2:AVal->Heap->Option R2),dop C e o σ K2=K2 v σ')/\Grw σ σ':=by
 unfold dop at h
 split at h
 ·rename_i x hop
  obtain⟨v,h,e1⟩:=y6_ h;exact⟨v,σ,h,fun K2=>by simp only[dop,hop];rw[e1],Grw.refl _⟩
 ·rename_i x hop
  obtain⟨v,h,e1⟩:=y6_ h;exact⟨v,σ,h,fun K2=>by simp only[dop,hop];rw[e1],Grw.refl _⟩
 ·rename_i c x y hop
  obtain⟨v,h,e1⟩:=y6_ h;obtain⟨b,h,e2⟩:=yp_ h;cases b with
  |true=>
   obtain⟨v,h,e3⟩:=y6_ (x:=x) (K:=fun v=>K v σ) h;exact⟨v,σ,h,fun K2=>by simp only[dop,hop];rw[e1,e2];exact e3 _,Grw.refl _⟩
  |false=>
   obtain⟨v,h,e3⟩:=y6_ (x:=y) (K:=fun v=>K v σ) h;exact⟨v,σ,h,fun K2=>by simp only[dop,hop];rw[e1,e2];exact e3 _,Grw.refl _⟩
 ·rename_i t hop
  obtain⟨ti,h,e1⟩:=y7_ h;exact⟨_,_,h,fun K2=>by simp only[dop,hop];rw[e1];rfl,Grw.new rfl⟩
 ·rename_i t x hop
  obtain⟨ti,h,e1⟩:=y7_ h;obtain⟨v,h,e2⟩:=y6_ h;obtain⟨vs,h,e3⟩:=y3r_ h;exact⟨_,_,h,fun K2=>by simp only[dop,hop];rw[e1,e2,e3];rfl,Grw.new rfl⟩
 ·rename_i t ps hop
  obtain⟨ti,h,e1⟩:=y7_ h
  split at h
  ·rename_i fs hk
   obtain⟨h,e2⟩:=y9w_ h;obtain⟨cs,h,e3⟩:=y3l_ h;exact⟨_,σ,h,fun K2=>by simp only[dop,hop];rw[e1];simp only[hk];rw[e2,e3],Grw.refl _⟩
  ·rename_i n el hk
   obtain⟨ei,h,e2⟩:=y7_ h;obtain⟨cs,h,e3⟩:=y3l_ h;exact⟨_,σ,h,fun K2=>by simp only[dop,hop];rw[e1];simp only[hk];rw[e2,e3],Grw.refl _⟩
  ·cases h
 ·rename_i t len ps hop
  obtain⟨ti,h,e1⟩:=y7_ h
  split at h
  ·rename_i el hk
   obtain⟨ei,h,e2⟩:=y7_ h;cases hb:Nat.ble (len*ei.size) 16777216 with
   |false=>rw[hb]at h;cases h
   |true=>
    rw[hb]at h;simp only[cond_true]at h;obtain⟨cs,h,e3⟩:=y3l_ h;exact⟨_,_,h,fun K2=>by simp only[dop,hop];rw[e1];simp only[hk];rw[e2];simp only[hb,cond_true];rw[e3];rfl,Grw.new rfl⟩
  ·cases h
 ·rename_i t x hop
  obtain⟨ti,h,e1⟩:=y7_ h;obtain⟨v,h,e2⟩:=y6_ h;obtain⟨u,h,e3⟩:=y60_ h;exact⟨u,σ,h,fun K2=>by simp only[dop,hop];rw[e1,e2,e3],Grw.refl _⟩
 ·rename_i t x y hop
  obtain⟨ti,h,e1⟩:=y7_ h;obtain⟨v,h,e2⟩:=y6_ h;obtain⟨u,h,e3⟩:=y6_ h;obtain⟨vs,h,e4⟩:=y3r_ h;obtain⟨σ',h,e5,hn⟩:=y9p_ h;exact⟨_,σ',h,fun K2=>by simp only[dop,hop];rw[e1,e2,e3,e4,e5],hn⟩
 ·rename_i x hop
  obtain⟨v,h,e1⟩:=y6_ h;obtain⟨h,e2⟩:=yfu_ h;exact⟨v,σ,h,fun K2=>by simp only[dop,hop];rw[e1,e2],Grw.refl _⟩
 ·rename_i op t x y ty hop
  obtain⟨ti,h,e1⟩:=y7_ h;obtain⟨v,h,e2⟩:=y6_ h;obtain⟨u,h,e3⟩:=y6_ h;obtain⟨z,h,e4⟩:=ygu_ h;exact⟨z,σ,h,fun K2=>by simp only[dop,hop];rw[e1,e2,e3,e4],Grw.refl _⟩
 ·rename_i op t x hop
  obtain⟨v,h,e1⟩:=y6_ h
  split at h
  ·exact⟨_,σ,h,fun K2=>by simp only[dop,hop];rw[e1],Grw.refl _⟩
  ·exact⟨_,σ,h,fun K2=>by simp only[dop,hop];rw[e1],Grw.refl _⟩
  ·cases h
 ·rename_i s t x hop
  obtain⟨ti0,h,e0⟩:=y7_ h;obtain⟨ti,h,e1⟩:=y7_ h;obtain⟨v,h,e2⟩:=y6_ h
  split at h
  ·rename_i hk
   exact⟨_,σ,h,fun K2=>by simp only[dop,hop];rw[e0,e1,e2];simp only[hk],Grw.refl _⟩
  ·cases h
 ·rename_i t x hop
  obtain⟨ti,h,e1⟩:=y7_ h;obtain⟨v,h,e2⟩:=y6_ h
  split at h
  ·cases h
  ·rename_i hk
   refine⟨_,σ,h,fun K2=>?_,Grw.refl _⟩;simp only[dop,hop];rw[e1,e2]
   split
   ·rename_i ms hk2;exact absurd hk2 (hk ms)
   ·rfl
 ·rename_i f fi ca hop
  obtain⟨vs,h,e1⟩:=y53_ h;obtain⟨us,h,e2⟩:=y53_ h;exact⟨_,σ,h,fun K2=>by simp only[dop,hop];rw[e1,e2],Grw.refl _⟩
 ·rename_i t x y hop
  obtain⟨ti,h,e1⟩:=y7_ h
  split at h
  ·rename_i el hk
   obtain⟨ei,h,e2⟩:=y7_ h;obtain⟨v,h,e3⟩:=y6_ h;obtain⟨u,h,e4⟩:=y6_ h;obtain⟨n1,h,e5⟩:=y1q_ h;obtain⟨n2,h,e6⟩:=y1q_ h;obtain⟨z,σ',h,e7,hn⟩:=yiw_ h;exact⟨z,σ',h,fun K2=>by simp only[dop,hop];rw[e1];simp only[hk];rw[e2,e3,e4,e5,e6,e7],hn⟩
  ·cases h
 ·rename_i t x lo hi mx hop
  obtain⟨ti,h,e1⟩:=y7_ h;obtain⟨v,h,e2⟩:=y6_ h;obtain⟨n1,h,e3⟩:=y5f_ h;obtain⟨n2,h,e4⟩:=y5f_ h;obtain⟨n3,h,e5⟩:=y5f_ h
  split at h
  ·rename_i el hk
   obtain⟨ei,h,e6⟩:=y7_ h;obtain⟨z,h,e7⟩:=yip_ h;exact⟨z,σ,h,fun K2=>by simp only[dop,hop];rw[e1,e2,e3,e4,e5];simp only[hk];rw[e6,e7],Grw.refl _⟩
  ·rename_i hk
   split at h
   ·obtain⟨s,h,e6⟩:=yp_ h
    obtain⟨z,h,e7⟩:=yio_ h;exact⟨_,σ,h,fun K2=>by simp only[dop,hop];rw[e1,e2,e3,e4,e5];simp only[hk];rw[e6,e7],Grw.refl _⟩
   ·cases h
  ·cases h
 ·rename_i t x f hop
  obtain⟨ti,h,e1⟩:=y7_ h
  split at h
  ·rename_i fs hk
   split at h
   ·rename_i off u hf
    obtain⟨ui,h,e2⟩:=y7_ h;cases hb:Nat.beq ui.size 0 with
    |true=>rw[hb]at h;cases h
    |false=>
     rw[hb]at h;simp only[cond_false]at h;obtain⟨v,h,e3⟩:=y6_ h;obtain⟨z,h,e4⟩:=yi8_ h;exact⟨z,σ,h,fun K2=>by simp only[dop,hop];rw[e1];simp only[hk,hf];rw[e2];simp only[hb,cond_false];rw[e3,e4],Grw.refl _⟩
   ·cases h
  ·cases h
 ·rename_i t x f hop
  obtain⟨ti,h,e1⟩:=y7_ h
  split at h
  ·rename_i fs hk
   split at h
   ·rename_i off u hf
    obtain⟨ui,h,e2⟩:=y7_ h;obtain⟨v,h,e3⟩:=y6_ h;obtain⟨z,h,e4⟩:=ya4_ h;exact⟨z,σ,h,fun K2=>by simp only[dop,hop];rw[e1];simp only[hk,hf];rw[e2,e3,e4],Grw.refl _⟩
   ·cases h
  ·cases h
 ·rename_i t x y hop
  obtain⟨ti,h,e1⟩:=y7_ h;obtain⟨v,h,e2⟩:=y6_ h;obtain⟨u,h,e3⟩:=y6_ h;obtain⟨n,h,e4⟩:=y1q_ h
  split at h
  ·rename_i el hk
   obtain⟨ei,h,e5⟩:=y7_ h;obtain⟨z,h,e6⟩:=yit_ h;exact⟨z,σ,h,fun K2=>by simp only[dop,hop];rw[e1,e2,e3,e4];simp only[hk];rw[e5,e6],Grw.refl _⟩
  ·rename_i ln el hk
   obtain⟨ei,h,e5⟩:=y7_ h;obtain⟨z,h,e6⟩:=yhz_ h;exact⟨z,σ,h,fun K2=>by simp only[dop,hop];rw[e1,e2,e3,e4];simp only[hk];rw[e5,e6],Grw.refl _⟩
  ·cases h
 ·rename_i t x y hop
  obtain⟨ti,h,e1⟩:=y7_ h;obtain⟨v,h,e2⟩:=y6_ h;obtain⟨u,h,e3⟩:=y6_ h;obtain⟨n,h,e4⟩:=y1q_ h
  split at h
  ·rename_i hk
   obtain⟨s,h,e5⟩:=yp_ h;obtain⟨z,h,e6⟩:=yht_ h;exact⟨_,σ,h,fun K2=>by simp only[dop,hop];rw[e1,e2,e3,e4];simp only[hk];rw[e5,e6],Grw.refl _⟩
  ·rename_i ln el hk
   obtain⟨ei,h,e5⟩:=y7_ h
   split at h
   ·rename_i hc
    obtain⟨z,h,e6⟩:=ya4_ h;exact⟨z,σ,h,fun K2=>by simp only[dop,hop];rw[e1,e2,e3,e4];simp only[hk];rw[e5];simp only[if_pos hc];rw[e6],Grw.refl _⟩
   ·cases h
  ·cases h
 ·rename_i x i hop
  obtain⟨v,h,e1⟩:=y6_ h;obtain⟨z,h,e2⟩:=yhj_ h;exact⟨z,σ,h,fun K2=>by simp only[dop,hop];rw[e1,e2],Grw.refl _⟩
 ·rename_i c hop
  split at h
  ·rename_i b hc
   obtain⟨v,σ',h,e1,hn⟩:=yj3_ h;exact⟨v,σ',h,fun K2=>by simp only[dop,hop,hc];rw[e1],hn⟩
  ·rename_i f hc
   obtain⟨v,h,e1⟩:=y6_ h;obtain⟨args,h,e2⟩:=y53_ h
   split at h
   ·rename_i id fi ca _
    cases hb:pvBad C f id with
    |true=>rw[hb]at h;cases h
    |false=>
    rw[hb]at h;simp only[cond_false]at h;obtain⟨z,σ',h,e3,hn⟩:=ydz_ (fun s hs=>hN _ s hs) h;have key:K z σ'=some r/\∀{R2:Type} (K2:AVal->Heap->Option R2),(match f with|.func _=>K2|_=>fun v σ=>coeK C o.type v fun v=>K2 v σ) z σ'=K2 z σ':=by
     cases f with
     |func g=>exact⟨h,fun K2=>rfl⟩
     |tmp t=>obtain⟨h1,h2⟩:=y89_ (K:=fun v=>K v σ') h;exact⟨h1,fun K2=>h2 (fun v=>K2 v σ')⟩
     |const t=>obtain⟨h1,h2⟩:=y89_ (K:=fun v=>K v σ') h;exact⟨h1,fun K2=>h2 (fun v=>K2 v σ')⟩
     |global t=>obtain⟨h1,h2⟩:=y89_ (K:=fun v=>K v σ') h;exact⟨h1,fun K2=>h2 (fun v=>K2 v σ')⟩
    exact⟨z,σ',key.1,fun K2=>by simp only[dop,hop,hc];rw[e1,e2];simp only[hb,cond_false];rw[e3];exact key.2 K2,hn⟩
   ·cases h
  ·cases h
 ·rename_i t hop
  obtain⟨ti,h,e1⟩:=y7_ h
  split at h
  ·rename_i kt et hk
   exact⟨_,_,h,fun K2=>by simp only[dop,hop];rw[e1];simp only[hk],Grw.new rfl⟩
  ·cases h
 ·rename_i t x i ok hop
  obtain⟨ti,h,e1⟩:=y7_ h
  split at h
  ·rename_i kt et hk
   obtain⟨ki,h,e2⟩:=y7_ h;obtain⟨ei,h,e3⟩:=y7_ h;obtain⟨v,h,e4⟩:=y6_ h;obtain⟨u,h,e5⟩:=y6_ h;cases hag:isAg ki.tk with
   |false=>
    rw[hag]at h;simp only[cond_false]at h;obtain⟨k,n,h,e6⟩:=y83_ h;obtain⟨z,h,e7⟩:=y69_ h;obtain⟨x,b,h,e8⟩:=yfn_ h;obtain⟨y,h,e9⟩:=yp_ h;cases ok with
    |true=>exact⟨_,σ,h,fun K2=>by simp only[dop,hop];rw[e1];simp only[hk];rw[e2,e3,e4,e5];simp only[hag,cond_false];rw[e6,e7,e8,e9]<;>rfl,Grw.refl _⟩
    |false=>exact⟨_,σ,h,fun K2=>by simp only[dop,hop];rw[e1];simp only[hk];rw[e2,e3,e4,e5];simp only[hag,cond_false];rw[e6,e7,e8,e9]<;>rfl,Grw.refl _⟩
   |true=>
    rw[hag]at h;simp only[cond_true]at h;obtain⟨ka,kb,h,e6⟩:=yb2_ h;obtain⟨z,h,e7⟩:=y69_ h;obtain⟨x,b,h,e8⟩:=yew_ h;obtain⟨y,h,e9⟩:=yp_ h;cases ok with
    |true=>exact⟨_,σ,h,fun K2=>by simp only[dop,hop];rw[e1];simp only[hk];rw[e2,e3,e4,e5];simp only[hag,cond_true];rw[e6,e7,e8,e9]<;>rfl,Grw.refl _⟩
    |false=>exact⟨_,σ,h,fun K2=>by simp only[dop,hop];rw[e1];simp only[hk];rw[e2,e3,e4,e5];simp only[hag,cond_true];rw[e6,e7,e8,e9]<;>rfl,Grw.refl _⟩
  ·cases h
 ·rename_i x u t ok hop
  obtain⟨ti,h,e1⟩:=y7_ h;obtain⟨v,h,e2⟩:=y6_ h;cases hif:isIf ti.tk with
  |true=>rw[hif]at h;cases h
  | false=>
   rw[hif]at h;cases ok with
   |true=>
    obtain⟨z,h,e3⟩:=y69_ h;obtain⟨x,b,h,e4⟩:=ycq_ h;obtain⟨y,h,e5⟩:=yp_ h;exact⟨_,σ,h,fun K2=>by simp only[dop,hop];rw[e1,e2];simp only[hif,cond_false,cond_true];rw[e3,e4,e5],Grw.refl _⟩
   | false=>
    simp only[cond_false]at h;obtain⟨z,h,e3⟩:=y7h_ h;cases z with
    |some z=>
     obtain⟨y,h,e5⟩:=yp_ h;exact⟨_,σ,h,fun K2=>by simp only[dop,hop];rw[e1,e2];simp only[hif,cond_false];rw[e3];simp only[];rw[e5],Grw.refl _⟩
    |none=>cases h
 ·rename_i t x i y hop
  obtain⟨v,σ',h,e1,hn⟩:=ybg_ h;exact⟨v,σ',h,fun K2=>by simp only[dop,hop];rw[e1],hn⟩
 ·rename_i t x i y hop
  obtain⟨v,σ',h,e1,hn⟩:=ybg_ h;exact⟨v,σ',h,fun K2=>by simp only[dop,hop];rw[e1],hn⟩
 ·cases h
theorem y6p_(hN:∀f s,C.calls f=some s->∀args σ v σ',s.run args σ=some (v,σ')->Grw σ σ'){all:List Oper}:∀(os:List Oper) (e:Env) (σ:Heap) (K:Env->Heap->Option Rt),dops C all os e σ K=some r->∃e' σ',K e' σ'=some r/\Grw σ σ'
 |[],e,σ,K,h=>⟨e,σ,h,Grw.refl _⟩
 | o::os,e,σ,K,h=>by
  have here:∀e1,dop C e1 o σ (fun v σ=>dops C all os (e1.put o.dst v) σ K)=some r->∃e' σ',K e' σ'=some r/\Grw σ σ':=fun e1 h=>by
   obtain⟨v,σ1,h1,_,hn⟩:=y21_ hN h;obtain⟨e',σ',h2,hn2⟩:=y6p_ hN os _ _ K h1;exact⟨e',σ',h2,hn.trans hn2⟩
  have skip:∀e1,dops C all os e1 σ K=some r->∃e' σ',K e' σ'=some r/\Grw σ σ':=fun e1 h=>y6p_ hN os e1 σ K h;simp only[dops]at h;cases hb:dstOk C.n o.dst with
  |false=>rw[hb]at h;cases h
  | true=>
   rw[hb]at h;simp only[cond_true]at h
   split at h
   ·exact here _ h
   ·rename_i j want hg
    split at h
    ·split at h
     ·split at h
      ·rename_i c hc
       cases c<;>cases want<;>first|exact here _ h|exact skip _ h
      ·exact skip _ h
      ·cases h
     ·cases h
    ·cases h
theorem y4m_(js:List (Ex×Lv)):∀(y:JT js) (e0:Env) (σ:Heap) (K:Ex->Env->Heap->Option Rt),elimJ js y e0 σ K=some r->∃ex e',K ex e' σ=some r:=by
 induction js with
 |nil=>intro y;exact nomatch y
 | cons x l ih=>
  cases l with
  |nil=>intro y e0 σ K h;exact⟨_,_,h⟩
  |cons z l=>
   intro y e0 σ K h;cases y with
   |inl y=>exact⟨_,_,h⟩
   |inr y=>exact ih y e0 σ K h
end
end
section
open Go Go.RowKit
def Runs(C:Cx)(e:Env)(o:Oper)(σ:Heap)(v:AVal):Prop:=∃σ',∀(R2:Type) (K2:AVal->Heap->Option R2),dop C e o σ K2=K2 v σ'
def noisy(C:Cx)(o:Oper):Bool:=!y8_ C o && !yz_ o
structure StepOk(C:Cx)(all:List Oper)(o:Oper)(E E':Env)(H H' σ σ':Heap)(W:Bool)(V:AVal):Prop where
 dst:∀t,o.dst=some t->t<C.n
 env:∀x,E'.get x=if o.dst=some x then some V else E.get x
 guard:o.guard=none->W=true
 guarded:∀j want,o.guard=some (j,want)->∃oj t,all[j]?=some oj/\oj.dst=some t/\((∃c,E.get t=some (.bool c)/\W=(c==want))\/(E.get t=some (.tup [])/\W=false))
 off:W=false->V=.tup []/\σ'=σ/\H'=H
 pure:W=true->y8_ C o=true->Runs C (E.only (yc_ o)) o H V/\σ'=σ/\H'=H
 alloc:W=true->y8_ C o=false->yz_ o=true->(∀(R2:Type) (K2:AVal->Heap->Option R2),dop C (E.only (yc_ o)) o σ K2=K2 V σ')/\H'=H
 noisy:W=true->noisy C o=true->(∀(R2:Type) (K2:AVal->Heap->Option R2),dop C (E.only (yc_ o)) o σ K2=K2 V σ')/\H'=σ'
 next:Grw σ σ'
structure RunOk(C:Cx)(all:List Oper)(ms:List Nat)(os:List Oper)(k:Nat)(ps:List Pend)(hs:List (Nat×Heap))(E:Nat->Env)(H Z:Nat->Heap)(W:Nat->Bool)(V:Nat->AVal):Prop where
 step:∀(i:Nat) (o:Oper),os[i]?=some o->StepOk C all o (E i) (E (i+1)) (H i) (H (i+1)) (Z i) (Z (i+1)) (W i) (V i)
 pend:∀p∈ps,∀(j:Nat) (o:Oper),os[j]?=some o->W j=true->noisy C o=true->ahead ms p.i (k+j)=false->Runs C p.e p.o (Z (j+1)) p.v
 past:∀h∈hs,∀(i:Nat) (o:Oper),os[i]?=some o->W i=true->y8_ C o=true->y10_ C o=true->ahead ms h.1 (k+i)=false->Runs C ((E i).only (yc_ o)) o h.2 (V i)
 fwd:∀(i j:Nat) (oi oj:Oper),i<j->os[i]?=some oi->os[j]?=some oj->W i=true->W j=true->y8_ C oi=true->y10_ C oi=true->noisy C oj=true->ahead ms (k+i) (k+j)=false->Runs C ((E i).only (yc_ oi)) oi (Z (j+1)) (V i)
 bwd:∀(i j:Nat) (oi oj:Oper),j<i->os[i]?=some oi->os[j]?=some oj->W i=true->W j=true->y8_ C oi=true->y10_ C oi=true->noisy C oj=true->ahead ms (k+j) (k+i)=false->Runs C ((E i).only (yc_ oi)) oi (H j) (V i)
def cons{α:Type}(x:α)(f:Nat->α):Nat->α
 |0=>x
 |n+1=>f n
theorem y5i_{C:Cx}(hN:∀f s,C.calls f=some s->∀args σ v σ',s.run args σ=some (v,σ')->Grw σ σ'){ms:List Nat}{k:Nat}{σ:Heap}{Rt:Type}{r:Rt}:∀(ps:List Pend) (X:Option Rt),rechk C ms k σ ps X=some r ->
  X=some r/\∀p∈ps,ahead ms p.i k=false->Runs C p.e p.o σ p.v
 |[],X,h=>⟨h,by simp⟩
 | p::ps,X,h=>by
  simp only[rechk]at h;cases hb:ahead ms p.i k with
  | true=>
   rw[hb]at h;obtain⟨h1,h2⟩:=y5i_ hN ps X h;exact⟨h1,fun q hq ha=>by
    rcases List.mem_cons.1 hq with e|e
    ·subst e;rw[hb]at ha;cases ha
    ·exact h2 q e ha⟩
  | false=>
   rw[hb]at h;simp only[cond_false]at h;obtain⟨v,σ',h1,h2,_⟩:=y21_ hN h;obtain⟨h3,h4⟩:=y12_ h1;obtain⟨h5,h6⟩:=y5i_ hN ps X h4;exact⟨h5,fun q hq ha=>by
    rcases List.mem_cons.1 hq with e|e
    ·subst e;exact⟨σ',fun R2 K2=>by rw[h2 K2,h3]⟩
    ·exact h6 q e ha⟩
theorem y5p_{C:Cx}(hN:∀f s,C.calls f=some s->∀args σ v σ',s.run args σ=some (v,σ')->Grw σ σ'){ms:List Nat}{k:Nat}{e:Env}{o:Oper}{v:AVal}{Rt:Type}{r:Rt}:∀(hs:List (Nat×Heap)) (X:Option Rt),backs C ms k e o v hs X=some r ->
  X=some r/\∀h∈hs,ahead ms h.1 k=false->Runs C e o h.2 v
 |[],X,h=>⟨h,by simp⟩
 | x::hs,X,h=>by
  simp only[backs]at h;cases hb:ahead ms x.1 k with
  | true=>
   rw[hb]at h;obtain⟨h1,h2⟩:=y5p_ hN hs X h;exact⟨h1,fun q hq ha=>by
    rcases List.mem_cons.1 hq with e|e
    ·subst e;rw[hb]at ha;cases ha
    ·exact h2 q e ha⟩
  | false=>
   rw[hb]at h;simp only[cond_false]at h;obtain⟨u,σ',h1,h2,_⟩:=y21_ hN h;obtain⟨h3,h4⟩:=y12_ h1;obtain⟨h5,h6⟩:=y5p_ hN hs X h4;exact⟨h5,fun q hq ha=>by
    rcases List.mem_cons.1 hq with e|e
    ·subst e;exact⟨σ',fun R2 K2=>by rw[h2 K2,h3]⟩
    ·exact h6 q e ha⟩
theorem RunOk.cons{C:Cx}{all:List Oper}{ms:List Nat}{o:Oper}{os:List Oper}{k:Nat}{ps ps':List Pend}{hs hs':List (Nat×Heap)}{E:Nat->Env}{H Z:Nat->Heap}{W:Nat->Bool}{V:Nat->AVal}{e:Env}{h σ:Heap}{w:Bool}{v:AVal}
  (hr:RunOk C all ms os (k+1) ps' hs' E H Z W V) (hs0:StepOk C all o e (E 0) h (H 0) σ (Z 0) w v)
  (hps:∀p∈ps,p∈ps') (hhs:∀x∈hs,x∈hs')
  (hp:w=true->noisy C o=true->∀p∈ps,ahead ms p.i k=false->Runs C p.e p.o (Z 0) p.v)
  (hb:w=true->y8_ C o=true->y10_ C o=true->∀x∈hs,ahead ms x.1 k=false->Runs C (e.only (yc_ o)) o x.2 v)
  (hp':w=true->y8_ C o=true->y10_ C o=true->⟨k,e.only (yc_ o),o,v⟩∈ps') (hh':w=true->noisy C o=true->(k,h)∈hs') :
  RunOk C all ms (o::os) k ps hs (A.cons e E) (A.cons h H) (A.cons σ Z) (A.cons w W) (A.cons v V):=by
 refine⟨fun i o' hi=>?_,fun p hpp j o' hj hw hn ha=>?_,fun x hx i o' hi hw hpu hrd ha=>?_,fun i j oi oj hij hi hj hwi hwj hpu hrd hn ha=>?_,fun i j oi oj hij hi hj hwi hwj hpu hrd hn ha=>?_⟩
 ·cases i with
  |zero=>simp at hi;subst hi;exact hs0
  |succ i=>exact hr.step i o' (by simpa using hi)
 ·cases j with
  |zero=>simp at hj;subst hj;exact hp hw hn p hpp ha
  |succ j=>exact hr.pend p (hps p hpp) j o' (by simpa using hj) hw hn (by rw[show k+1+j=k+(j+1) by omega];exact ha)
 ·cases i with
  |zero=>simp at hi;subst hi;exact hb hw hpu hrd x hx ha
  |succ i=>exact hr.past x (hhs x hx) i o' (by simpa using hi) hw hpu hrd (by rw[show k+1+i=k+(i+1) by omega];exact ha)
 ·cases j with
  |zero=>omega
  | succ j=>
   cases i with
   |zero=>
    simp at hi;subst hi;exact hr.pend ⟨k,e.only (yc_ o),o,v⟩ (hp' hwi hpu hrd) j oj (by simpa using hj) hwj hn (by rw[show k+1+j=k+(j+1) by omega];exact ha)
   |succ i=>exact hr.fwd i j oi oj (by omega) (by simpa using hi) (by simpa using hj) hwi hwj hpu hrd hn (by rw[show k+1+j=k+(j+1) by omega,show k+1+i=k+(i+1) by omega];exact ha)
 ·cases i with
  |zero=>omega
  | succ i=>
   cases j with
   |zero=>
    simp at hj;subst hj;exact hr.past (k,h) (hh' hwj hn) i oi (by simpa using hi) hwi hpu hrd (by rw[show k+1+i=k+(i+1) by omega];exact ha)
   |succ j=>exact hr.bwd i j oi oj (by omega) (by simpa using hi) (by simpa using hj) hwi hwj hpu hrd hn (by rw[show k+1+j=k+(j+1) by omega,show k+1+i=k+(i+1) by omega];exact ha)
theorem y1v_{C:Cx}(hN:∀f s,C.calls f=some s->∀args σ v σ',s.run args σ=some (v,σ')->Grw σ σ'){all:List Oper}{ms:List Nat}{Rt:Type}{K:Env->Heap->Option Rt}{r:Rt}:∀(os:List Oper) (k:Nat) (e:Env) (h σ:Heap) (ps:List Pend) (hs:List (Nat×Heap)),
  ddops C all ms os k e h σ ps hs K=some r->∃E H Z W V,K (E os.length) (Z os.length)=some r/\(∀x,(E 0).get x=e.get x)/\H 0=h/\Z 0=σ/\RunOk C all ms os k ps hs E H Z W V
 |[],k,e,h,σ,ps,hs,hd=>⟨fun _=>e,fun _=>h,fun _=>σ,fun _=>true,fun _=>.nilp,hd,fun _=>rfl,rfl,rfl,⟨fun i o hi=>by simp at hi,fun p _ j o hj=>by simp at hj,fun x _ i o hi=>by simp at hi,fun i j oi oj _ hi=>by simp at hi,fun i j oi oj _ hi=>by simp at hi⟩⟩
 | o::os,k,e,h,σ,ps,hs,hd=>by
  simp only[ddops]at hd;cases hb:dstOk C.n o.dst with
  |false=>rw[hb]at hd;cases hd
  | true=>
   rw[hb]at hd;simp only[cond_true]at hd;have hdst:∀t,o.dst=some t->t<C.n:=fun t ht=>by rw[ht]at hb;simpa[dstOk,Nat.blt_eq]using hb
   have here:∀e1:Env,(∀x,e1.get x=e.get x)->(∀j want,o.guard=some (j,want)->∃oj t,all[j]?=some oj/\oj.dst=some t/\∃c,e1.get t=some (.bool c)/\true=(c==want)) ->
     (bif y8_ C o then
      dop C (e1.only (yc_ o)) o h fun v _=>bif y10_ C o then backs C ms k (e1.only (yc_ o)) o v hs (ddops C all ms os (k+1) (e1.put o.dst v) h σ (⟨k,e1.only (yc_ o),o,v⟩::ps) hs K)
       else ddops C all ms os (k+1) (e1.put o.dst v) h σ ps hs K
     else bif yz_ o then dop C (e1.only (yc_ o)) o σ fun v σ=>ddops C all ms os (k+1) (e1.put o.dst v) h σ ps hs K
     else dop C (e1.only (yc_ o)) o σ fun v σ=>rechk C ms k σ ps (ddops C all ms os (k+1) (e1.put o.dst v) σ σ ps ((k,h)::hs) K))=some r ->
     ∃E H Z W V,K (E (o::os).length) (Z (o::os).length)=some r/\(∀x,(E 0).get x=e.get x)/\H 0=h/\Z 0=σ/\RunOk C all ms (o::os) k ps hs E H Z W V:=fun e1 he1 hg hd=>by
    cases hp:y8_ C o with
    | true=>
     rw[hp]at hd;simp only[cond_true]at hd;obtain⟨v,σ',h1,h2,_⟩:=y21_ hN hd;have hruns:Runs C (e1.only (yc_ o)) o h v:=⟨σ',fun R2 K2=>h2 K2⟩;cases hrd:y10_ C o with
     | true=>
      rw[hrd]at h1;simp only[cond_true]at h1;obtain⟨h3,h4⟩:=y5p_ hN hs _ h1;obtain⟨E,H,Z,W,V,k1,k2,k3,k4,k5⟩:=y1v_ hN os (k+1) _ _ _ _ _ h3;refine⟨_,_,_,_,_,k1,he1,rfl,rfl,k5.cons (e:=e1) (h:=h) (σ:=σ) (w:=true) (v:=v) ⟨hdst,fun x=>by rw[k2,Env.get_put],fun _=>rfl,fun j want hgg=>?_,fun hf=>(by cases hf),fun _ _=>⟨hruns,k4,k3⟩,fun _ hf=>(by rw[hp]at hf;cases hf),fun _ hf=>(by simp[noisy,hp]at hf),by rw[k4];exact Grw.refl _⟩
       (fun p hpp=>List.mem_cons_of_mem _ hpp) (fun x hx=>hx) (fun _ hf=>(by simp[noisy,hp]at hf)) (fun _ _ _=>h4) (fun _ _ _=>List.mem_cons_self) (fun _ hf=>(by simp[noisy,hp]at hf))⟩
      obtain⟨oj,t,q1,q2,c,q3,q4⟩:=hg j want hgg;exact⟨oj,t,q1,q2,.inl ⟨c,q3,q4⟩⟩
     | false=>
      rw[hrd]at h1;simp only[cond_false]at h1;obtain⟨E,H,Z,W,V,k1,k2,k3,k4,k5⟩:=y1v_ hN os (k+1) _ _ _ _ _ h1;refine⟨_,_,_,_,_,k1,he1,rfl,rfl,k5.cons (e:=e1) (h:=h) (σ:=σ) (w:=true) (v:=v) ⟨hdst,fun x=>by rw[k2,Env.get_put],fun _=>rfl,fun j want hgg=>?_,fun hf=>(by cases hf),fun _ _=>⟨hruns,k4,k3⟩,fun _ hf=>(by rw[hp]at hf;cases hf),fun _ hf=>(by simp[noisy,hp]at hf),by rw[k4];exact Grw.refl _⟩
       (fun p hpp=>hpp) (fun x hx=>hx) (fun _ hf=>(by simp[noisy,hp]at hf)) (fun _ _ hf=>(by rw[hrd]at hf;cases hf)) (fun _ _ hf=>(by rw[hrd]at hf;cases hf)) (fun _ hf=>(by simp[noisy,hp]at hf))⟩
      obtain⟨oj,t,q1,q2,c,q3,q4⟩:=hg j want hgg;exact⟨oj,t,q1,q2,.inl ⟨c,q3,q4⟩⟩
    | false=>
     rw[hp]at hd;simp only[cond_false]at hd;cases hal:yz_ o with
     | true=>
      rw[hal]at hd;simp only[cond_true]at hd;obtain⟨v,σ',h1,h2,hn⟩:=y21_ hN hd;obtain⟨E,H,Z,W,V,k1,k2,k3,k4,k5⟩:=y1v_ hN os (k+1) _ _ _ _ _ h1;refine⟨_,_,_,_,_,k1,he1,rfl,rfl,k5.cons (e:=e1) (h:=h) (σ:=σ) (w:=true) (v:=v) ⟨hdst,fun x=>by rw[k2,Env.get_put],fun _=>rfl,fun j want hgg=>?_,fun hf=>(by cases hf),fun _ hf=>(by rw[hp]at hf;cases hf),fun _ _ _=>⟨fun R2 K2=>by rw[k4];exact h2 K2,k3⟩,fun _ hf=>(by simp[noisy,hal]at hf),by rw[k4];exact hn⟩
       (fun p hpp=>hpp) (fun x hx=>hx) (fun _ hf=>(by simp[noisy,hal]at hf)) (fun _ hf=>(by rw[hp]at hf;cases hf)) (fun _ hf=>(by rw[hp]at hf;cases hf)) (fun _ hf=>(by simp[noisy,hal]at hf))⟩
      obtain⟨oj,t,q1,q2,c,q3,q4⟩:=hg j want hgg;exact⟨oj,t,q1,q2,.inl ⟨c,q3,q4⟩⟩
     | false=>
      rw[hal]at hd;simp only[cond_false]at hd;obtain⟨v,σ',h1,h2,hn⟩:=y21_ hN hd;obtain⟨h3,h4⟩:=y5i_ hN ps _ h1;obtain⟨E,H,Z,W,V,k1,k2,k3,k4,k5⟩:=y1v_ hN os (k+1) _ _ _ _ _ h3;refine⟨_,_,_,_,_,k1,he1,rfl,rfl,k5.cons (e:=e1) (h:=h) (σ:=σ) (w:=true) (v:=v) ⟨hdst,fun x=>by rw[k2,Env.get_put],fun _=>rfl,fun j want hgg=>?_,fun hf=>(by cases hf),fun _ hf=>(by rw[hp]at hf;cases hf),fun _ _ hf=>(by rw[hal]at hf;cases hf),fun _ _=>⟨fun R2 K2=>by rw[k4];exact h2 K2,by rw[k3,k4]⟩,by rw[k4];exact hn⟩
       (fun p hpp=>hpp) (fun x hx=>List.mem_cons_of_mem _ hx) (fun _ _=>by rw[k4];exact h4) (fun _ hf=>(by rw[hp]at hf;cases hf)) (fun _ hf=>(by rw[hp]at hf;cases hf)) (fun _ _=>List.mem_cons_self)⟩
      obtain⟨oj,t,q1,q2,c,q3,q4⟩:=hg j want hgg;exact⟨oj,t,q1,q2,.inl ⟨c,q3,q4⟩⟩
   have skip:∀e1:Env,(∀x,e1.get x=e.get x)->(∃j want,o.guard=some (j,want))->(∀j want,o.guard=some (j,want)->∃oj t,all[j]?=some oj/\oj.dst=some t/\((∃c,e1.get t=some (.bool c)/\false=(c==want))\/e1.get t=some (.tup []))) ->
     ddops C all ms os (k+1) (e1.put o.dst (.tup [])) h σ ps hs K=some r ->
     ∃E H Z W V,K (E (o::os).length) (Z (o::os).length)=some r/\(∀x,(E 0).get x=e.get x)/\H 0=h/\Z 0=σ/\RunOk C all ms (o::os) k ps hs E H Z W V:=fun e1 he1 hgs hg hd=>by
    obtain⟨E,H,Z,W,V,k1,k2,k3,k4,k5⟩:=y1v_ hN os (k+1) _ _ _ _ _ hd;refine⟨_,_,_,_,_,k1,he1,rfl,rfl,k5.cons (e:=e1) (h:=h) (σ:=σ) (w:=false) (v:=.tup []) ⟨hdst,fun x=>by rw[k2,Env.get_put],fun hn=>?_,fun j want hgg=>?_,fun _=>⟨rfl,k4,k3⟩,fun hf=>(by cases hf),fun hf=>(by cases hf),fun hf=>(by cases hf),by rw[k4];exact Grw.refl _⟩
     (fun p hpp=>hpp) (fun x hx=>hx) (fun hf=>(by cases hf)) (fun hf=>(by cases hf)) (fun hf=>(by cases hf)) (fun hf=>(by cases hf))⟩
    ·obtain⟨j,want,hgg⟩:=hgs;rw[hgg]at hn;cases hn
    ·obtain⟨oj,t,q1,q2,q3⟩:=hg j want hgg
     exact⟨oj,t,q1,q2,q3.imp id fun x=>⟨x,rfl⟩⟩
   split at hd
   ·rename_i hg
    exact here e (fun _=>rfl) (fun j want hgg=>by rw[hg]at hgg;cases hgg) hd
   ·rename_i j want hg
    split at hd
    ·rename_i oj hoj
     split at hd
     ·rename_i t hdt
      split at hd
      ·rename_i c hc
       have hput:∀c',c=c'->∀x,(e.put (some t) (.bool c')).get x=e.get x:=fun c' ec x=>by
        rw[Env.get_put];by_cases e2:some t=some x
        ·rw[if_pos e2];cases e2;rw[hc,ec]
        ·rw[if_neg e2]
       have hgl:∀c',c=c'->∀b,b=(c'==want)->∀j' want',o.guard=some (j',want')->∃oj t,all[j']?=some oj/\oj.dst=some t/\∃c,((e.put (some t) (.bool c')).get t=some (.bool c)/\b=(c==want')):=fun c' ec b hbb j' want' hgg=>by
        rw[hg]at hgg;cases hgg;exact⟨oj,t,hoj,hdt,c',by rw[Env.get_put,if_pos rfl],hbb⟩
       have hgl2:∀c',c=c'->∀b,b=(c'==want)->∀j' want',o.guard=some (j',want')->∃oj t2,all[j']?=some oj/\oj.dst=some t2/\∃c,((e.put (some t) (.bool c')).get t2=some (.bool c)/\b=(c==want')):=fun c' ec b hbb j' want' hgg=>by
        rw[hg]at hgg;cases hgg;exact⟨oj,t,hoj,hdt,c',by rw[Env.get_put,if_pos rfl],hbb⟩
       cases c with
       |true=>
        simp only[cond_true]at hd;cases want with
        |true=>exact here _ (hput true rfl) (hgl2 true rfl true rfl) hd
        |false=>exact skip _ (hput true rfl) ⟨_,_,hg⟩ (fun j' w' hgg=>let⟨oj,t2,q1,q2,q3⟩:=hgl2 true rfl false rfl j' w' hgg;⟨oj,t2,q1,q2,.inl q3⟩) hd
       |false=>
        simp only[cond_false]at hd;cases want with
        |true=>exact skip _ (hput false rfl) ⟨_,_,hg⟩ (fun j' w' hgg=>let⟨oj,t2,q1,q2,q3⟩:=hgl2 false rfl false rfl j' w' hgg;⟨oj,t2,q1,q2,.inl q3⟩) hd
        |false=>exact here _ (hput false rfl) (hgl2 false rfl true rfl) hd
      ·rename_i hc
       exact skip e (fun _=>rfl) ⟨_,_,hg⟩ (fun j' w' hgg=>by rw[hg]at hgg;cases hgg;exact⟨oj,t,hoj,hdt,.inr hc⟩) hd
      ·cases hd
     ·cases hd
    ·cases hd
end
section
open Go Go.RowKit
def Le{Rt:Type}(x y:Option Rt):Prop:=∀r,x=some r->y=some r
theorem Le.rfl{Rt:Type}{x:Option Rt}:Le x x:=fun _ h=>h
section
variable{Rt:Type}{C:Cx}{e:Env}{σ τ:Heap}{r:Rt}
theorem ti_le{t:TypeId}{K K':TI->Option Rt}(h:∀a,Le (K a) (K' a)):Le (C.ti t K) (C.ti t K'):=by
 unfold Cx.ti;split
 ·exact h _
 ·exact Le.rfl
theorem ev_le{x:Operand}{K K':AVal->Option Rt}(h:∀a,Le (K a) (K' a)):Le (ev C e x K) (ev C e x K'):=fun r hr=>by
 obtain⟨a,h1,h2⟩:=y6_ hr;rw[h2];exact h a r h1
theorem yfo_{x:List Operand}{K K':List AVal->Option Rt}(h:∀a,Le (K a) (K' a)):Le (evs C e x K) (evs C e x K'):=fun r hr=>by
 obtain⟨a,h1,h2⟩:=y53_ hr;rw[h2];exact h a r h1
theorem yhy_{v:AVal}{K K':Int->Option Rt}(h:∀a,Le (K a) (K' a)):Le (intK v K) (intK v K'):=fun r hr=>by
 obtain⟨a,h1,h2⟩:=y1q_ hr;rw[h2];exact h a r h1
theorem y9t_{x:Option Operand}{K K':Option Int->Option Rt}(h:∀a,Le (K a) (K' a)):Le (optK C e x K) (optK C e x K'):=fun r hr=>by
 obtain⟨a,h1,h2⟩:=y5f_ hr;rw[h2];exact h a r h1
theorem yjr_(hX:Ext σ τ){v:AVal}{sz:Nat}{i:Int}{K:AVal->Option Rt}:Le (ixA σ v sz i K) (ixA τ v sz i K):=fun r h=>by
 unfold ixA at h⊢
 split at h
 ·split at h
  ·rename_i hg;simp only[hX _ _ hg];exact h
  ·cases h
 ·cases h
theorem ybv_(hX:Ext σ τ){i:TI}{v:AVal}{K:AVal->Option Rt}:Le (loadK i σ v K) (loadK i τ v K):=fun r h=>by
 unfold loadK at h⊢;cases hb:isAg i.tk with
 | true=>
  rw[hb]at h;simp only[cond_true,ldG]at h⊢
  split at h
  ·split at h
   ·rename_i hg;simp only[hX _ _ hg];exact h
   ·cases h
  ·cases h
 | false=>
  rw[hb]at h;simp only[cond_false,ld]at h⊢
  split at h
  ·split at h
   ·rename_i l o _ u hu
    have:τ.cell l o=some u:=by
     unfold Heap.cell at hu⊢
     split at hu
     ·rename_i hg;simp only[hX _ _ hg];exact hu
     ·cases hu
    simp only[this];exact h
   ·cases h
  ·cases h
theorem yjm_(hX:Ext σ τ){v:AVal}{sz:Nat}{lo:Int}{hi mx:Option Int}{K:AVal->Option Rt}:Le (slS σ sz v lo hi mx K) (slS τ sz v lo hi mx K):=fun r h=>by
 unfold slS at h⊢
 split at h
 ·exact h
 ·split at h
  ·rename_i hg;simp only[hX _ _ hg];exact h
  ·cases h
 ·cases h
theorem yhv_(hX:Ext σ τ){v:AVal}{K:Int->Option Rt}:Le (lenM σ v K) (lenM τ v K):=fun r h=>by
 unfold lenM at h⊢
 split at h
 ·split at h
  ·rename_i hg;simp only[hX _ _ hg];exact h
  ·cases h
 ·exact h
 ·cases h
theorem yjj_(hX:Ext σ τ){T:TypeId->Option TI}{cn:Bool}{x y:AVal}{K:Bool->Option Rt}:Le (eqI T σ cn x y K) (eqI T τ cn x y K):=fun r h=>by
 unfold eqI at h⊢
 split at h
 ·exact h
 ·exact h
 ·exact h
 ·rename_i t l o u l' o'
  by_cases tu:t=u
  ·rw[if_pos tu]at h
   simp only[if_pos tu];cases hT:T t with
   |none=>rw[hT]at h;cases h
   | some ti=>
    simp only[hT]at h;dsimp only
    split at h
    ·rename_i el hel
     cases hE:T el with
     |none=>rw[hE]at h;cases h
     | some ei=>
      simp only[hE]at h;dsimp only;cases hb:(Nat.beq ei.size 0 || !ti.cmp) with
      |true=>rw[hb]at h;cases h
      | false=>
       rw[hb]at h;simp only[cond_false]at h⊢;by_cases ll:l=l'
       ·rw[if_pos ll]at h;rw[if_pos ll];exact h
       ·rw[if_neg ll]at h;rw[if_neg ll]
        split at h
        ·rename_i h1 h2
         simp only[hX _ _ h1,hX _ _ h2];exact h
        ·cases h
    ·cases h
  ·rw[if_neg tu]at h;simp only[if_neg tu];exact h
 ·cases h
theorem yin_(hX:Ext σ τ){op:BinOp}{ti:TI}{cn:Bool}{x y:AVal}{K:AVal->Option Rt}:Le (binK C op ti σ cn x y K) (binK C op ti τ cn x y K):=by
 unfold binK
 split
 case h_8=>split<;>first|exact yjj_ hX|exact Le.rfl
 all_goals exact Le.rfl
theorem yae_(hC:∀f s,C.calls f=some s->SpecOk C.P C.NG f s)(hX:Ext σ τ){f:FuncId}(hp:isPur (C.calls f)=true){args:List AVal}{K:AVal->Option Rt}:Le (yr_ (C.calls f) args σ fun v _=>K v) (yr_ (C.calls f) args τ fun v _=>K v):=fun r h=>by
 cases hs:C.calls f with
 |none=>rw[hs]at h;cases h
 | some s=>
  cases s with
  |eff ks g=>rw[hs]at hp;cases hp
  | pur ks g=>
   rw[hs]at h;simp only[yr_]at h⊢;cases hg:g args σ with
   |none=>rw[hg]at h;cases h
   |some x=>
    rw[hg]at h;rw[(hC f _ hs).ext ks g rfl args σ τ x hX hg];exact h
theorem yim_(hX:Ext σ τ){ts:List TypeId}{args:List Operand}{K:AVal->Option Rt}:Le (biK C e .len ts args σ fun v _=>K v) (biK C e .len ts args τ fun v _=>K v):=by
 match ts,args with
 |[],_=>exact Le.rfl
 |[t],[]=>exact Le.rfl
 |[t],[x]=>
  refine ti_le fun ti=>ev_le fun v=>?_
  split
  ·exact Le.rfl
  ·exact Le.rfl
  ·exact yhv_ hX
  ·exact Le.rfl
 |[t],x::y::l=>exact Le.rfl
 |t::u::l,_=>exact Le.rfl
theorem ydb_{ts:List TypeId}{args:List Operand}{K:AVal->Option Rt}:Le (biK C e .max ts args σ fun v _=>K v) (biK C e .max ts args τ fun v _=>K v):=by
 match args with
 |[]=>exact Le.rfl
 |[x]=>exact Le.rfl
 |[x,y]=>exact Le.rfl
 |x::y::z::l=>exact Le.rfl
theorem ydi_{ts:List TypeId}{args:List Operand}{K:AVal->Option Rt}:Le (biK C e .min ts args σ fun v _=>K v) (biK C e .min ts args τ fun v _=>K v):=by
 match args with
 |[]=>exact Le.rfl
 |[x]=>exact Le.rfl
 |[x,y]=>exact Le.rfl
 |x::y::z::l=>exact Le.rfl
theorem ybh_(hC:∀f s,C.calls f=some s->SpecOk C.P C.NG f s){o:Oper}(hp:y8_ C o=true)(hX:Ext σ τ){K:AVal->Option Rt}:Le (dop C e o σ fun v _=>K v) (dop C e o τ fun v _=>K v):=by
 cases hop:o.op
 all_goals simp only[y8_,hop]at hp
 all_goals simp only[dop,hop]
 case move=>exact Le.rfl
 case assign=>exact Le.rfl
 case pick=>exact Le.rfl
 case build=>exact Le.rfl
 case nilCheck=>exact Le.rfl
 case unOp=>exact Le.rfl
 case convert=>exact Le.rfl
 case makeInterface=>exact Le.rfl
 case makeFunc=>exact Le.rfl
 case fieldAddr=>exact Le.rfl
 case field=>exact Le.rfl
 case index=>exact Le.rfl
 case extract=>exact Le.rfl
 case load=>exact ti_le fun ti=>ev_le fun a=>ybv_ hX
 case binOp=>exact ti_le fun ti=>ev_le fun a=>ev_le fun b=>yin_ hX
 case slice=>
  refine ti_le fun ti=>ev_le fun v=>y9t_ fun lo=>y9t_ fun hi=>y9t_ fun mx=>?_
  split
  ·exact ti_le fun ei=>yjm_ hX
  ·exact Le.rfl
  ·exact Le.rfl
 case indexAddr=>
  refine ti_le fun ti=>ev_le fun v=>ev_le fun i=>yhy_ fun i=>?_
  split
  ·exact ti_le fun ei=>yjr_ hX
  ·exact Le.rfl
  ·exact Le.rfl
 case call c=>
  split at hp
  case h_6=>cases hp
  all_goals (rename_i hc;simp only[hc])
  ·exact yim_ hX
  ·exact ydb_
  ·exact ydi_
  ·rename_i f hc'
   refine yfo_ fun args=>?_;exact yae_ hC hX hp
  ·refine ev_le fun f=>yfo_ fun args=>?_
   split
   ·rename_i id fi ca
    simp only[pvBad,hp,cond_true];cases hs:isPur (C.calls id) with
    |false=>exact Le.rfl
    |true=>exact yae_ (K:=fun v=>coeK C o.type v fun v=>K v) hC hX hs
   ·exact Le.rfl
 all_goals cases hp
theorem hN_of(hC:∀f s,C.calls f=some s->SpecOk C.P C.NG f s):∀f s,C.calls f=some s->∀args σ v σ',s.run args σ=some (v,σ')->Grw σ σ':=fun f s h=>(hC f s h).next
theorem y71_(hC:∀f s,C.calls f=some s->SpecOk C.P C.NG f s){o:Oper}(hp:y8_ C o=true){K:AVal->Heap->Option Rt}(h:dop C e o σ K=some r) :
  ∃v,K v σ=some r/\∀τ,Ext σ τ->∀{R2:Type} (K2:AVal->Heap->Option R2),dop C e o τ K2=K2 v τ:=by
 rw[yb7_ (K':=fun v _=>K v σ) hp (fun v=>rfl)]at h;obtain⟨v,σ',h1,h2,_⟩:=y21_ (hN_of hC) h;refine⟨v,h1,fun τ hX R2 K2=>?_⟩;have h3:dop C e o σ (fun v _=>some v)=some v:=h2 _;have h4:=ybh_ hC hp hX v h3;obtain⟨v',σ'',h5,h6,_⟩:=y21_ (hN_of hC) h4;cases h5;rw[yb7_ (K':=fun v _=>K2 v τ) hp (fun v=>rfl),h6]
theorem y7q_(hC:∀f s,C.calls f=some s->SpecOk C.P C.NG f s){all:List Oper}:∀(os:List Oper) (e:Env) (σ:Heap) (K:Env->Heap->Option Rt),yh_ C os=true->dops C all os e σ K=some r ->
  ∃e',K e' σ=some r/\∀τ,Ext σ τ->∀{R2:Type} (K2:Env->Heap->Option R2),dops C all os e τ K2=K2 e' τ
 |[],e,σ,K,_,h=>⟨e,h,fun _ _ _ _=>rfl⟩
 | o::os,e,σ,K,hp,h=>by
  simp only[yh_]at hp;cases hpo:y8_ C o with
  |false=>rw[hpo]at hp;cases hp
  | true=>
   rw[hpo]at hp;simp only[cond_true]at hp;have here:∀e1,dop C e1 o σ (fun v σ=>dops C all os (e1.put o.dst v) σ K)=some r->∃e',K e' σ=some r/\∀τ,Ext σ τ->∀{R2:Type} (K2:Env->Heap->Option R2),dop C e1 o τ (fun v σ=>dops C all os (e1.put o.dst v) σ K2)=K2 e' τ:=fun e1 h=>by
    obtain⟨v,h1,h2⟩:=y71_ hC hpo h;obtain⟨e',h3,h4⟩:=y7q_ hC os _ σ K hp h1;exact⟨e',h3,fun τ hX R2 K2=>by rw[h2 τ hX];exact h4 τ hX K2⟩
   have skip:∀e1,dops C all os e1 σ K=some r->∃e',K e' σ=some r/\∀τ,Ext σ τ->∀{R2:Type} (K2:Env->Heap->Option R2),dops C all os e1 τ K2=K2 e' τ:=fun e1 h=>y7q_ hC os e1 σ K hp h;simp only[dops]at h⊢;cases hb:dstOk C.n o.dst with
   |false=>rw[hb]at h;cases h
   | true=>
    rw[hb]at h;simp only[cond_true]at h⊢
    split at h
    ·exact here _ h
    ·rename_i j want hg
     split at h
     ·rename_i oj hoj
      split at h
      ·rename_i t hdt
       split at h
       ·rename_i c hc
        try simp only[hoj,hdt,hc]
        cases c<;>cases want<;>first|exact here _ h|exact skip _ h
       ·rename_i hc
        try simp only[hoj,hdt,hc]
        exact skip _ h
       ·cases h
      ·cases h
     ·cases h
theorem y4r_(hC:∀f s,C.calls f=some s->SpecOk C.P C.NG f s){all:List Oper}{ms:List Nat}:∀(os:List Oper) (k:Nat) (e:Env) (σ:Heap) (ps:List Pend) (K:Env->Heap->Option Rt),yh_ C os=true->ddops C all ms os k e σ σ ps [] K=some r ->
  ∃e',K e' σ=some r/\∀τ,Ext σ τ->∀{R2:Type} (ps':List Pend) (K2:Env->Heap->Option R2),ddops C all ms os k e τ τ ps' [] K2=K2 e' τ
 |[],k,e,σ,ps,K,_,h=>⟨e,h,fun _ _ _ _ _=>rfl⟩
 | o::os,k,e,σ,ps,K,hp,h=>by
  simp only[yh_]at hp;cases hpo:y8_ C o with
  |false=>rw[hpo]at hp;cases hp
  | true=>
   rw[hpo]at hp;simp only[cond_true]at hp;have skip:∀e1,ddops C all ms os (k+1) e1 σ σ ps [] K=some r->∃e',K e' σ=some r/\∀τ,Ext σ τ->∀{R2:Type} (ps':List Pend) (K2:Env->Heap->Option R2),ddops C all ms os (k+1) e1 τ τ ps' [] K2=K2 e' τ:=fun e1 h=>y4r_ hC os (k+1) e1 σ ps K hp h;simp only[ddops,hpo,cond_true,backs]at h⊢;have here:∀e1:Env,dop C (e1.only (yc_ o)) o σ (fun v x=>bif y10_ C o then ddops C all ms os (k+1) (e1.put o.dst v) σ σ (⟨k,e1.only (yc_ o),o,v⟩::ps) [] K else ddops C all ms os (k+1) (e1.put o.dst v) σ σ ps [] K)=some r ->
     ∃e',K e' σ=some r/\∀τ,Ext σ τ->∀{R2:Type} (ps':List Pend) (K2:Env->Heap->Option R2),dop C (e1.only (yc_ o)) o τ (fun v x=>bif y10_ C o then ddops C all ms os (k+1) (e1.put o.dst v) τ τ (⟨k,e1.only (yc_ o),o,v⟩::ps') [] K2 else ddops C all ms os (k+1) (e1.put o.dst v) τ τ ps' [] K2)=K2 e' τ:=fun e1 h=>by
    obtain⟨v,h1,h2⟩:=y71_ hC hpo h;cases hrd:y10_ C o with
    |true=>
     rw[hrd]at h1;obtain⟨e',h3,h4⟩:=y4r_ hC os (k+1) _ σ _ K hp h1;exact⟨e',h3,fun τ hX R2 ps' K2=>by rw[h2 τ hX];exact h4 τ hX _ K2⟩
    |false=>
     rw[hrd]at h1;obtain⟨e',h3,h4⟩:=y4r_ hC os (k+1) _ σ _ K hp h1;exact⟨e',h3,fun τ hX R2 ps' K2=>by rw[h2 τ hX];exact h4 τ hX _ K2⟩
   cases hb:dstOk C.n o.dst with
   |false=>rw[hb]at h;cases h
   | true=>
    rw[hb]at h;simp only[cond_true]at h⊢
    split at h
    ·exact here _ h
    ·rename_i j want hg
     split at h
     ·rename_i oj hoj
      split at h
      ·rename_i t hdt
       split at h
       ·rename_i c hc
        try simp only[hoj,hdt,hc]
        cases c<;>cases want<;>first|exact here _ h|exact skip _ h
       ·rename_i hc
        try simp only[hoj,hdt,hc]
        exact skip _ h
       ·cases h
      ·cases h
     ·cases h
theorem y5k_(hC:∀f s,C.calls f=some s->SpecOk C.P C.NG f s){ops:Array Oper}{draw:Bool}{K:Env->Heap->Option Rt}(hp:yh_ C ops.toList=true)(h:regK C ops draw e σ K=some r) :
  ∃e',K e' σ=some r/\∀τ,Ext σ τ->∀{R2:Type} (K2:Env->Heap->Option R2),regK C ops draw e τ K2=K2 e' τ:=by
 unfold regK at h⊢;cases draw with
 | true=>
  simp only[cond_true]at h⊢;cases hd:y51_ C ops with
  |false=>rw[hd]at h;cases h
  |true=>
   rw[hd]at h;simp only[cond_true]at h⊢;obtain⟨e',h1,h2⟩:=y4r_ hC _ _ _ _ _ _ hp h;exact⟨e',h1,fun τ hX R2 K2=>h2 τ hX _ K2⟩
 |false=>exact y7q_ hC _ _ _ _ hp h
theorem y6w_(hC:∀f s,C.calls f=some s->SpecOk C.P C.NG f s):y3b_ C:=by
 intro ops draw e σ Rt K K' hp h;cases h1:regK C ops draw e σ K with
 |some r=>
  obtain⟨e',h2,h3⟩:=y5k_ hC hp h1;rw[h3 σ (Ext.refl σ) K',<-h,h2]
 | none=>
  cases h2:regK C ops draw e σ K' with
  |none=>rfl
  |some r=>
   obtain⟨e',h3,h4⟩:=y5k_ hC hp h2;rw[h4 σ (Ext.refl σ) K,h,h3]at h1;cases h1
theorem y4b_(js:List (Ex×Lv)):∀(y:JT js) (e0:Env),∃ex e',∀{R2:Type} (σ:Heap) (K:Ex->Env->Heap->Option R2),elimJ js y e0 σ K=K ex e' σ:=by
 induction js with
 |nil=>intro y;exact nomatch y
 | cons x l ih=>
  cases l with
  |nil=>intro y e0;exact⟨_,_,fun σ K=>rfl⟩
  |cons z l=>
   intro y e0;cases y with
   |inl y=>exact⟨_,_,fun σ K=>rfl⟩
   |inr y=>exact ih y e0
theorem y7s_(e:Env):∀(l:Lv) (K:l.ty->Option Rt),e.pack l K=some r->∃x,K x=some r/\∀{R2:Type} (K2:l.ty->Option R2),e.pack l K2=K2 x
 |[],K,h=>⟨(),h,fun _=>rfl⟩
 | [x],K,h=>by
  simp only[Env.pack,Env.getK]at h⊢
  split at h
  ·rename_i u hu
   obtain⟨y,h1,h2⟩:=yp_ h;exact⟨y,h1,fun K2=>by first|exact h2 K2|(simp only[hu];exact h2 K2)⟩
  ·cases h
 | x::y::l,K,h=>by
  simp only[Env.pack,Env.getK]at h⊢
  split at h
  ·rename_i u hu
   obtain⟨a,h1,h2⟩:=yp_ h;obtain⟨b,h3,h4⟩:=y7s_ e (y::l) _ h1;exact⟨(a,b),h3,fun K2=>by first|rw[h2,h4]|(simp only[hu];rw[h2,h4])⟩
  ·cases h
theorem y7a_{X Y:Type}{f g:X->Option (X⊕Y)}(h:∀x,Le (f x) (g x)):∀(n:Nat) (x:X) (y:Y),yq_ f n x=some y->yq_ g n x=some y
 |0,x,y,hh=>by cases hh
 | n+1,x,y,hh=>by
  simp only[yq_]at hh⊢;cases hf:f x with
  |none=>rw[hf]at hh;cases hh
  |some z=>
   rw[hf]at hh;rw[h x z hf];cases z with
   |inl x'=>exact y7a_ h n x' y hh
   |inr y'=>exact hh
theorem y8y_{X Y:Type}{f:X->Option (X⊕Y)}:∀(n k:Nat) (x:X) (y z:Y),yq_ f n x=some y->yq_ f k x=some z->y=z
 |0,k,x,y,z,h,_=>by cases h
 |n+1,0,x,y,z,_,h=>by cases h
 | n+1,k+1,x,y,z,h1,h2=>by
  simp only[yq_]at h1 h2;cases hf:f x with
  |none=>rw[hf]at h1;cases h1
  |some u=>
   rw[hf]at h1 h2;cases u with
   |inl x'=>exact y8y_ n k x' y z h1 h2
   |inr y'=>cases h1;cases h2;rfl
theorem yhd_{X Y:Type}{f:X->Option (X⊕Y)}{n:Nat}{x:X}{y:Y}(h:yq_ f n x=some y):loopP f x=some y:=by
 unfold loopP;have hx:∃n r,yq_ f n x=some r:=⟨n,y,h⟩;rw[dif_pos hx];exact congrArg some (y8y_ _ _ x _ _ hx.choose_spec.choose_spec h)
theorem yes_{X Y:Type}{f g:X->Option (X⊕Y)}(h:∀x,Le (f x) (g x))(x:X):Le (loopP f x) (loopP g x):=fun y hy=>by
 obtain⟨n,hn⟩:=y8k_ hy;exact yhd_ (y7a_ h n x y hn)
end
theorem ydm_{C:Cx}(hC:∀f s,C.calls f=some s->SpecOk C.P C.NG f s)(c:Code):∀(an:Ann) (e:Env) (σ:Heap) {Rt:Type} (K:Ex->Env->Heap->Option Rt) (r:Rt),pureC C c=true->den C c an e σ K=some r ->
  ∃ex e',K ex e' σ=some r/\∀τ,Ext σ τ->∀{R2:Type} (K2:Ex->Env->Heap->Option R2),den C c an e τ K2=K2 ex e' τ:=by
 induction c with
 |skip=>intro an e σ Rt K r hp h;exact⟨.normal,e,h,fun _ _ _ _=>rfl⟩
 |label l=>intro an e σ Rt K r hp h;exact⟨.normal,e,h,fun _ _ _ _=>rfl⟩
 |ret=>intro an e σ Rt K r hp h;exact⟨.ret,e,h,fun _ _ _ _=>rfl⟩
 |exit id=>intro an e σ Rt K r hp h;exact⟨.exit id,e,h,fun _ _ _ _=>rfl⟩
 |goto l=>intro an e σ Rt K r hp h;cases h
 |rangeFunc f ps x y=>intro an e σ Rt K r hp h;cases h
 |refuse s=>intro an e σ Rt K r hp h;cases h
 |scope x=>intro an e σ Rt K r hp h;cases h
 | region id ops draw=>
  intro an e σ Rt K r hp h;simp only[pureC]at hp;simp only[den,hp,cond_true]at h⊢
  split at h
  ·rename_i js x
   cases hd:(regK C ops draw e σ fun e _=>packJ js .normal e fun a=>some a) with
   |none=>rw[hd]at h;cases h
   |some mid=>
    rw[hd]at h;obtain⟨e1,h1,h2⟩:=y5k_ hC hp hd;obtain⟨ex,e',h3⟩:=y4b_ js mid (e.drop (dsts ops.toList []));refine⟨ex,e',(h3 σ K).symm.trans h,fun τ hX R2 K2=>?_⟩;rw[h2 τ hX,h1];exact h3 τ K2
  ·rename_i hno
   obtain⟨e1,h1,h2⟩:=y5k_ hC hp h;refine⟨.normal,e1,h1,fun τ hX R2 K2=>?_⟩;cases an with
   |j js a=>exact absurd rfl (hno js a)
   |_=>exact h2 τ hX _
 | seq x y ihx ihy=>
  intro an e σ Rt K r hp h;simp only[pureC]at hp;have hpx:pureC C x=true:=by cases hx:pureC C x with|true=>rfl|false=>rw[hx]at hp;cases hp
  have hpy:pureC C y=true:=by rw[hpx]at hp;exact hp
  simp only[den]at h⊢;obtain⟨ex,e1,h1,h2⟩:=ihx _ _ _ _ _ hpx h;cases ex with
  |normal=>
   obtain⟨ex',e2,h3,h4⟩:=ihy _ _ _ _ _ hpy h1;exact⟨ex',e2,h3,fun τ hX R2 K2=>by rw[h2 τ hX];exact h4 τ hX K2⟩
  |exit id=>exact⟨_,e1,h1,fun τ hX R2 K2=>h2 τ hX _⟩
  |ret=>exact⟨_,e1,h1,fun τ hX R2 K2=>h2 τ hX _⟩
 | cond c x y ihx ihy=>
  intro an e σ Rt K r hp h;simp only[pureC]at hp;have hpx:pureC C x=true:=by cases hx:pureC C x with|true=>rfl|false=>rw[hx]at hp;cases hp
  have hpy:pureC C y=true:=by rw[hpx]at hp;exact hp
  simp only[den,hpx,hpy,cond_true]at h⊢;obtain⟨v,h,hv⟩:=y6_ h;obtain⟨b,h5,hb⟩:=yp_ h;simp only[hv,hb]
  clear h hv hb
  split at h5
  ·rename_i js an'
   cases b with
   | true=>
    simp only[cond_true]at h5⊢;cases hd:(den C x an'.fst e σ fun ex e _=>packJ js ex e fun x=>some x) with
    |none=>rw[hd]at h5;cases h5
    |some mid=>
     rw[hd]at h5;obtain⟨ex1,e1,h1,h2⟩:=ihx _ _ _ _ _ hpx hd;obtain⟨ex,e',h3⟩:=y4b_ js mid (e.drop (wr x (wr y [])));exact⟨ex,e',(h3 σ K).symm.trans h5,fun τ hX R2 K2=>by rw[h2 τ hX,h1];exact h3 τ K2⟩
   | false=>
    simp only[cond_false]at h5⊢;cases hd:(den C y an'.snd e σ fun ex e _=>packJ js ex e fun x=>some x) with
    |none=>rw[hd]at h5;cases h5
    |some mid=>
     rw[hd]at h5;obtain⟨ex1,e1,h1,h2⟩:=ihy _ _ _ _ _ hpy hd;obtain⟨ex,e',h3⟩:=y4b_ js mid (e.drop (wr x (wr y [])));exact⟨ex,e',(h3 σ K).symm.trans h5,fun τ hX R2 K2=>by rw[h2 τ hX,h1];exact h3 τ K2⟩
  ·rename_i hno
   have heq:∀{R2:Type} (τ:Heap) (K2:Ex->Env->Heap->Option R2),(match (motive:=Ann->Option R2) an with
     | .j js an=>(cond b (den C x an.fst e τ fun ex e _=>packJ js ex e fun x=>some x) (den C y an.snd e τ fun ex e _=>packJ js ex e fun x=>some x)).bind fun r=>elimJ js r (e.drop (wr x (wr y []))) τ K2
     |an=>cond b (den C x an.fst e τ K2) (den C y an.snd e τ K2))=cond b (den C x an.fst e τ K2) (den C y an.snd e τ K2):=by
    intro R2 τ K2;cases an with
    |j js a=>exact absurd rfl (hno js a)
    |_=>rfl
   try simp only[heq]
   cases b with
   |true=>exact ihx _ _ _ _ _ hpx h5
   |false=>exact ihy _ _ _ _ _ hpy h5
 | block id x ih=>
  intro an e σ Rt K r hp h;simp only[pureC]at hp;simp only[den,hp,cond_true]at h⊢
  split at h
  ·rename_i js an'
   cases hd:(den C x an' e σ fun ex e _=>packJ js (mapX id ex) e fun x=>some x) with
   |none=>rw[hd]at h;cases h
   |some mid=>
    rw[hd]at h;obtain⟨ex1,e1,h1,h2⟩:=ih _ _ _ _ _ hp hd;obtain⟨ex,e',h3⟩:=y4b_ js mid (e.drop (wr x []));exact⟨ex,e',(h3 σ K).symm.trans h,fun τ hX R2 K2=>by rw[h2 τ hX,h1];exact h3 τ K2⟩
  ·rename_i hno
   obtain⟨ex1,e1,h1,h2⟩:=ih _ _ _ _ _ hp h;refine⟨mapX id ex1,e1,h1,fun τ hX R2 K2=>?_⟩;cases an with
   |j js a=>exact absurd rfl (hno js a)
   |_=>exact h2 τ hX _
 | loop x ih=>
  intro an e σ Rt K r hp h;simp only[pureC]at hp;simp only[den,hp,cond_true]at h⊢
  split at h
  ·rename_i L js an'
   obtain⟨x0,h,hx0⟩:=y7s_ e L _ h;simp only[hx0];obtain⟨mid,hd,h⟩:=Option.bind_eq_some_iff.1 h;obtain⟨ex,e',h3⟩:=y4b_ js mid (e.drop (wr x []));refine⟨ex,e',(h3 σ K).symm.trans h,fun τ hX R2 K2=>?_⟩;refine Eq.trans (congrArg (fun z=>Option.bind z _) (yes_ (fun y=>fun z hz=>?_) x0 mid hd)) (h3 τ K2);obtain⟨ex1,e1,h1,h2⟩:=ih _ _ _ _ _ hp hz;rw[h2 τ hX];exact h1
  ·cases h
theorem yax_{C:Cx}(hC:∀f s,C.calls f=some s->SpecOk C.P C.NG f s){ops:Array Oper}{draw:Bool}{e:Env}{σ:Heap}{Rt:Type}{r:Rt}{K:Env->Heap->Option Rt}(h:regK C ops draw e σ K=some r) :
  ∃e' σ',K e' σ'=some r/\Grw σ σ':=by
 unfold regK at h;cases draw with
 | true=>
  simp only[cond_true]at h;cases hd:y51_ C ops with
  |false=>rw[hd]at h;cases h
  | true=>
   rw[hd]at h;simp only[cond_true]at h;obtain⟨E,H,Z,W,V,h1,h2,h3,h4,h5⟩:=y1v_ (hN_of hC) _ _ _ _ _ _ _ h;refine⟨_,_,h1,?_⟩;rw[<-h4];have:∀n,n<=ops.toList.length->Grw (Z 0) (Z n):=fun n=>by
    induction n with
    |zero=>intro _;exact Grw.refl _
    |succ n ih=>
     intro hn;obtain⟨o,ho⟩:∃o,ops.toList[n]?=some o:=⟨_,List.getElem?_eq_getElem (by omega)⟩;exact(ih (by omega)).trans (h5.step n o ho).next
   exact this _ (Nat.le_refl _)
 |false=>exact y6p_ (hN_of hC) _ _ _ _ h
theorem y8x_{X Y:Type}{f:X->Heap->Option ((X⊕Y)×Heap)}(h:∀x σ y σ',f x σ=some (y,σ')->Grw σ σ'):∀(n:Nat) (x:X) (σ:Heap) (y:Y) (σ':Heap),loopN f n x σ=some (y,σ')->Grw σ σ'
 |0,_,_,_,_,hh=>by cases hh
 | n+1,x,σ,y,σ',hh=>by
  simp only[loopN]at hh;cases hf:f x σ with
  |none=>rw[hf]at hh;cases hh
  |some z=>
   rw[hf]at hh;obtain⟨z,σ1⟩:=z;have h1:=h _ _ _ _ hf;cases z with
   |inl x'=>exact h1.trans (y8x_ h n x' σ1 y σ' hh)
   |inr y'=>cases hh;exact h1
theorem y5b_{C:Cx}(hC:∀f s,C.calls f=some s->SpecOk C.P C.NG f s)(c:Code):∀(an:Ann) (e:Env) (σ:Heap) {Rt:Type} (K:Ex->Env->Heap->Option Rt) (r:Rt),den C c an e σ K=some r ->
  ∃ex e' σ',K ex e' σ'=some r/\Grw σ σ':=by
 have pure:∀(c:Code) (an:Ann) (e:Env) (σ:Heap) {Rt:Type} (K:Ex->Env->Heap->Option Rt) (r:Rt),pureC C c=true->den C c an e σ K=some r->∃ex e' σ',K ex e' σ'=some r/\Grw σ σ':=fun c an e σ Rt K r hp h=>by
  obtain⟨ex,e',h1,_⟩:=ydm_ hC c an e σ K r hp h;exact⟨ex,e',σ,h1,Grw.refl _⟩
 induction c with
 |skip=>intro an e σ Rt K r h;exact⟨.normal,e,σ,h,Grw.refl _⟩
 |label l=>intro an e σ Rt K r h;exact⟨.normal,e,σ,h,Grw.refl _⟩
 |ret=>intro an e σ Rt K r h;exact⟨.ret,e,σ,h,Grw.refl _⟩
 |exit id=>intro an e σ Rt K r h;exact⟨.exit id,e,σ,h,Grw.refl _⟩
 |goto l=>intro an e σ Rt K r h;cases h
 |rangeFunc f ps x y=>intro an e σ Rt K r h;cases h
 |refuse s=>intro an e σ Rt K r h;cases h
 |scope x=>intro an e σ Rt K r h;cases h
 | region id ops draw=>
  intro an e σ Rt K r h;cases hp:yh_ C ops.toList with
  |true=>exact pure (.region id ops draw) _ _ _ _ _ hp h
  | false=>
   simp only[den,hp,cond_false]at h
   split at h
   ·rename_i js x
    cases hd:(regK C ops draw e σ fun e σ=>packJ js .normal e fun a=>some (a,σ)) with
    |none=>rw[hd]at h;cases h
    |some mid=>
     rw[hd]at h;obtain⟨e1,σ1,h1,h2⟩:=yax_ hC hd;obtain⟨y,h3,_⟩:=yl_ e1 .normal js _ h1;cases h3;obtain⟨ex,e',h4⟩:=y4m_ js _ _ _ _ h;exact⟨ex,e',σ1,h4,h2⟩
   ·obtain⟨e1,σ1,h1,h2⟩:=yax_ hC h
    exact⟨.normal,e1,σ1,h1,h2⟩
 | seq x y ihx ihy=>
  intro an e σ Rt K r h;simp only[den]at h;obtain⟨ex,e1,σ1,h1,h2⟩:=ihx _ _ _ _ _ h;cases ex with
  |normal=>
   obtain⟨ex',e2,σ2,h3,h4⟩:=ihy _ _ _ _ _ h1;exact⟨ex',e2,σ2,h3,h2.trans h4⟩
  |exit id=>exact⟨_,e1,σ1,h1,h2⟩
  |ret=>exact⟨_,e1,σ1,h1,h2⟩
 | cond c x y ihx ihy=>
  intro an e σ Rt K r h;cases hp:(bif pureC C x then pureC C y else false) with
  |true=>exact pure (.cond c x y) _ _ _ _ _ hp h
  | false=>
   simp only[den,hp,cond_false]at h;obtain⟨v,h,hv⟩:=y6_ h;obtain⟨b,h5,hb⟩:=yp_ h
   clear h hv hb
   split at h5
   ·rename_i js an'
    have fin:∀mid:JT js×Heap,Grw σ mid.2->elimJ js mid.1 (e.drop (wr x (wr y []))) mid.2 K=some r->∃ex e' σ',K ex e' σ'=some r/\Grw σ σ':=fun mid hm hh=>by
     obtain⟨ex,e',h4⟩:=y4m_ js _ _ _ _ hh;exact⟨ex,e',mid.2,h4,hm⟩
    cases b with
    | true=>
     simp only[cond_true]at h5;cases hd:(den C x an'.fst e σ fun ex e σ=>packJ js ex e fun x=>some (x,σ)) with
     |none=>rw[hd]at h5;cases h5
     |some mid=>
      rw[hd]at h5;obtain⟨ex1,e1,σ1,h1,h2⟩:=ihx _ _ _ _ _ hd;obtain⟨z,h3,_⟩:=yl_ e1 ex1 js _ h1;cases h3;exact fin _ h2 h5
    | false=>
     simp only[cond_false]at h5;cases hd:(den C y an'.snd e σ fun ex e σ=>packJ js ex e fun x=>some (x,σ)) with
     |none=>rw[hd]at h5;cases h5
     |some mid=>
      rw[hd]at h5;obtain⟨ex1,e1,σ1,h1,h2⟩:=ihy _ _ _ _ _ hd;obtain⟨z,h3,_⟩:=yl_ e1 ex1 js _ h1;cases h3;exact fin _ h2 h5
   ·cases b with
    |true=>exact ihx _ _ _ _ _ h5
    |false=>exact ihy _ _ _ _ _ h5
 | block id x ih=>
  intro an e σ Rt K r h;cases hp:pureC C x with
  |true=>exact pure (.block id x) _ _ _ _ _ hp h
  | false=>
   simp only[den,hp,cond_false]at h
   split at h
   ·rename_i js an'
    cases hd:(den C x an' e σ fun ex e σ=>packJ js (mapX id ex) e fun x=>some (x,σ)) with
    |none=>rw[hd]at h;cases h
    |some mid=>
     rw[hd]at h;obtain⟨ex1,e1,σ1,h1,h2⟩:=ih _ _ _ _ _ hd;obtain⟨z,h3,_⟩:=yl_ e1 _ js _ h1;cases h3;obtain⟨ex,e',h4⟩:=y4m_ js _ _ _ _ h;exact⟨ex,e',σ1,h4,h2⟩
   ·obtain⟨ex1,e1,σ1,h1,h2⟩:=ih _ _ _ _ _ h
    exact⟨_,e1,σ1,h1,h2⟩
 | loop x ih=>
  intro an e σ Rt K r h;cases hp:pureC C x with
  |true=>exact pure (.loop x) _ _ _ _ _ hp h
  | false=>
   simp only[den,hp,cond_false]at h
   split at h
   ·rename_i L js an'
    obtain⟨x0,h,_⟩:=y7s_ e L _ h;obtain⟨mid,hd,h⟩:=Option.bind_eq_some_iff.1 h;obtain⟨n,hn⟩:=y8w_ hd;obtain⟨y,σ1⟩:=mid;have hle:=y8x_ (fun y σ z σ' hz=>?_) n x0 σ y σ1 hn
    ·obtain⟨ex,e',h4⟩:=y4m_ js _ _ _ _ h
     exact⟨ex,e',σ1,h4,hle⟩
    ·obtain⟨ex1,e1,σ2,h1,h2⟩:=ih _ _ _ _ _ hz
     cases ex1 with
     |normal=>obtain⟨q,h3,_⟩:=y1w_ e1 L _ h1;cases h3;exact h2
     |exit id=>obtain⟨q,h3,_⟩:=yl_ e1 _ js _ h1;cases h3;exact h2
     |ret=>obtain⟨q,h3,_⟩:=yl_ e1 _ js _ h1;cases h3;exact h2
   ·cases h
end
section
open Go Go.RowKit
abbrev Ld(listed:Array Bool)(j:Nat):Prop:=listed.getD j false=true
def y1p_(ops:Array Oper)(listed:Array Bool):Prop:=∀j o,ops[j]?=some o->Ld listed j->∀e∈o.after,Region.binds .any e=true->Ld listed e.on
theorem y8c_{acc:List Nat}{i:Nat}:∀(es:List Edge),(y4d_ acc es).testBit i=true->∃x∈es,Region.binds .any x=true/\(x.on=i\/(acc.getD (acc.length-1-x.on) 0).testBit i=true)
 |[],h=>by simp[y4d_]at h
 | x::es,h=>by
  have h':((bif Region.binds .any x then((2 ^ x.on ||| acc.getD (acc.length-1-x.on) 0) ||| 0)else 0) ||| y4d_ acc es).testBit i=true:=h;rw[Nat.testBit_or,Bool.or_eq_true]at h';rcases h' with h1|h1
  ·cases hb:Region.binds .any x with
   |false=>rw[hb]at h1;simp at h1
   |true=>
    rw[hb]at h1;simp only[cond_true,Nat.testBit_or,Bool.or_eq_true,Nat.zero_testBit,Bool.false_eq_true,or_false,Nat.testBit_two_pow]at h1;exact⟨x,List.mem_cons_self,hb,h1.imp (fun h=>by simpa using h) id⟩
  ·obtain⟨y,h2,h3⟩:=y8c_ es h1
   exact⟨y,List.mem_cons_of_mem _ h2,h3⟩
theorem y6f_:∀(os:List Oper) (acc:List Nat) (t:Nat),t<acc.length->(masks os acc).getD t 0=acc.getD (acc.length-1-t) 0
 |[],acc,t,h=>by
  simp only[masks,List.getD_eq_getElem?_getD];rw[List.getElem?_reverse h]
 |o::os,acc,t,h=>by
  simp only[masks];rw[y6f_ os _ t (by simp;omega)];simp only[List.length_cons,List.getD_eq_getElem?_getD];rw[show acc.length+1-1-t=(acc.length-1-t)+1 by omega,List.getElem?_cons_succ]
theorem y94_:∀(os:List Oper) (acc:List Nat) (i:Nat) (o:Oper),os[i]?=some o ->
  ∃acc':List Nat,acc'.length=acc.length+i/\(masks os acc).getD (acc.length+i) 0=y4d_ acc' o.after.toList/\∀t,t<acc'.length->(masks os acc).getD t 0=acc'.getD (acc'.length-1-t) 0
 |[],acc,i,o,h=>by simp at h
 |x::os,acc,0,o,h=>by
  simp at h;subst h;refine⟨acc,rfl,?_,fun t ht=>y6f_ _ _ t ht⟩;simp only[masks,Nat.add_zero];rw[y6f_ os _ acc.length (by simp)];simp
 |x::os,acc,i+1,o,h=>by
  obtain⟨acc',h1,h2,h3⟩:=y94_ os (y4d_ acc x.after.toList::acc) i o (by simpa using h);simp only[List.length_cons]at h1 h2;exact⟨acc',by omega,by simp only[masks];rw[<-h2];congr 1;omega,fun t ht=>by simp only[masks];exact h3 t ht⟩
section
variable{ops:Array Oper}(hback:∀(j:Nat)(o:Oper),ops[j]?=some o->∀e∈o.after,Region.binds .any e=true->e.on<j)
include hback
theorem yeb_{i j:Nat}{o:Oper}(ho:ops[j]?=some o)(h:ahead (masks ops.toList []) i j=true):∃x∈o.after,Region.binds .any x=true/\(x.on=i\/ahead (masks ops.toList []) i x.on=true):=by
 obtain⟨acc',h1,h2,h3⟩:=y94_ ops.toList [] j o (by simpa using ho);simp only[List.length_nil,Nat.zero_add]at h1 h2;unfold ahead at h;rw[h2]at h;obtain⟨x,h4,h5,h6⟩:=y8c_ _ h;have hx:x∈o.after:=by simpa using h4
 refine⟨x,hx,h5,h6.imp id fun h7=>?_⟩;unfold ahead;rw[h3 x.on (by have:=hback j o ho x hx h5;omega)];exact h7
theorem y7z_{listed:Array Bool}(hc:y1p_ ops listed):∀(j i:Nat) (o:Oper),ops[j]?=some o->ahead (masks ops.toList []) i j=true->(∀e∈o.after,Region.binds .any e=true->Ld listed e.on)->Ld listed i:=by
 intro j
 induction j using Nat.strongRecOn with
 | ind j ih=>
  intro i o ho h hl;obtain⟨x,h1,h2,h3⟩:=yeb_ hback ho h;rcases h3 with h3|h3
  ·rw[<-h3];exact hl x h1 h2
  ·have hlt:=hback j o ho x h1 h2
   have hj:=(Array.getElem?_eq_some_iff.1 ho).1;obtain⟨ox,hox⟩:∃ox,ops[x.on]?=some ox:=⟨_,Array.getElem?_eq_getElem (by omega)⟩;exact ih x.on hlt i ox hox h3 (fun e he hb=>hc x.on ox hox (hl x h1 h2) e he hb)
theorem y3x_{C:Cx}:∀(os:List Oper) (i:Nat) (ns:List Nat),y45_ C (masks ops.toList []) os i ns=true->(∀k:Nat,os[k]?=ops[i+k]?) ->
  (∀a oa,a<i->ops[a]?=some oa->y8_ C oa=false->∃b∈ns,∀listed,y1p_ ops listed->Ld listed b->Ld listed a) ->
  ∀j oj,i<=j->ops[j]?=some oj->noisy C oj=true->∀a oa,a<j->ops[a]?=some oa->y8_ C oa=false->∀listed,y1p_ ops listed->(∀e∈oj.after,Region.binds .any e=true->Ld listed e.on)->Ld listed a
 |[],i,ns,_,hos,_,j,oj,hij,hj,_,a,oa,_,_,_,listed,_,_=>by
  have:=hos (j-i);rw[show i+(j-i)=j by omega,hj]at this;simp at this
 | o::os,i,ns,hch,hos,hns,j,oj,hij,hj,hn,a,oa,haj,ha,hpa,listed,hc,hl=>by
  have ho:ops[i]?=some o:=by have:=hos 0;simpa using this.symm
  have hrest:∀k:Nat,os[k]?=ops[i+1+k]?:=fun k=>by have:=hos (k+1);rw[show i+1+k=i+(k+1) by omega];simpa using this
  simp only[y45_]at hch;cases hp:y8_ C o with
  | true=>
   rw[hp]at hch;refine y3x_ os (i+1) ns hch hrest (fun b ob hb hob hpb=>?_) j oj ?_ hj hn a oa haj ha hpa listed hc hl
   ·rcases Nat.lt_or_ge b i with h|h
    ·exact hns b ob h hob hpb
    ·have:b=i:=by omega
     subst this;rw[ho]at hob;cases hob;rw[hp]at hpb;cases hpb
   ·rcases Nat.lt_or_ge i j with h|h
    ·exact h
    ·have:j=i:=by omega
     subst this;rw[ho]at hj;cases hj;simp[noisy,hp]at hn
  | false=>
   rw[hp]at hch;simp only[cond_false]at hch;cases hal:yz_ o with
   | true=>
    rw[hal]at hch;refine y3x_ os (i+1) (i::ns) hch hrest (fun b ob hb hob hpb=>?_) j oj ?_ hj hn a oa haj ha hpa listed hc hl
    ·rcases Nat.lt_or_ge b i with h|h
     ·obtain⟨c,h1,h2⟩:=hns b ob h hob hpb
      exact⟨c,List.mem_cons_of_mem _ h1,h2⟩
     ·have:b=i:=by omega
      subst this;exact⟨b,List.mem_cons_self,fun _ _ h=>h⟩
    ·rcases Nat.lt_or_ge i j with h|h
     ·exact h
     ·have:j=i:=by omega
      subst this;rw[ho]at hj;cases hj;simp[noisy,hal]at hn
   | false=>
    rw[hal]at hch;simp only[cond_false]at hch;cases hall:(ns.all fun j=>ahead (masks ops.toList []) j i) with
    |false=>rw[hall]at hch;cases hch
    | true=>
     rw[hall]at hch;simp only[cond_true]at hch;have pre:∀b ob,b<i->ops[b]?=some ob->y8_ C ob=false->∀listed,y1p_ ops listed->(∀e∈o.after,Region.binds .any e=true->Ld listed e.on)->Ld listed b:=fun b ob hb hob hpb listed hc hl=>by
      obtain⟨c,h1,h2⟩:=hns b ob hb hob hpb;exact h2 listed hc (y7z_ hback hc i c o ho (List.all_eq_true.1 hall c h1) hl)
     rcases Nat.lt_or_ge i j with h|h
     ·refine y3x_ os (i+1) [i] hch hrest (fun b ob hb hob hpb=>⟨i,by simp,fun listed hc hli=>?_⟩) j oj h hj hn a oa haj ha hpa listed hc hl
      rcases Nat.lt_or_ge b i with h|h
      ·exact pre b ob h hob hpb listed hc (fun e he hb=>hc i o ho hli e he hb)
      ·have:b=i:=by omega
       subst this;exact hli
     ·have:j=i:=by omega
      subst this;rw[ho]at hj;cases hj;exact pre a oa haj ha hpa listed hc hl
end
theorem y8b_{ops:Array Oper}{x:Oper}{i:Nat}:∀(ys:List Oper),lexOk ops x i ys=true->∀y∈ys,(∃e∈y.after,Region.binds .any e=true/\e.on=i)\/x.apart ops y=true
 |[],_,y,hy=>by simp at hy
 | z::ys,h,y,hy=>by
  simp only[lexOk]at h;cases hb:(onB z i||x.apart ops z) with
  |false=>rw[hb]at h;cases h
  | true=>
   rw[hb]at h;rcases List.mem_cons.1 hy with e|e
   ·subst e
    rw[Bool.or_eq_true]at hb;refine hb.imp (fun h1=>?_) id;simp only[onB,List.any_eq_true,Bool.and_eq_true]at h1;obtain⟨e,h2,h3,h4⟩:=h1;exact⟨e,by simpa using h2,h3,Nat.eq_of_beq_eq_true h4⟩
   ·exact y8b_ ys h y e
theorem y78_{ops:Array Oper}:∀(os:List Oper) (i:Nat),y97_ ops os i=true->(∀k:Nat,os[k]?=ops[i+k]?) ->
  (∀j oj,i<=j->ops[j]?=some oj->∀e∈oj.after,Region.binds .any e=true->e.on<j) /\
  (∀a b oa ob,i<=a->a<b->ops[a]?=some oa->ops[b]?=some ob->(∃e∈ob.after,Region.binds .any e=true/\e.on=a)\/oa.apart ops ob=true)
 | [],i,_,hos=>by
  have no:∀j oj,i<=j->ops[j]?≠some oj:=fun j oj hij hj=>by
   have:=hos (j-i);rw[show i+(j-i)=j by omega,hj]at this;simp at this
  exact⟨fun j oj hij hj=>absurd hj (no j oj hij),fun a b oa ob hia hab ha=>absurd ha (no a oa hia)⟩
 | o::os,i,h,hos=>by
  have ho:ops[i]?=some o:=by have:=hos 0;simpa using this.symm
  have hrest:∀k:Nat,os[k]?=ops[i+1+k]?:=fun k=>by have:=hos (k+1);rw[show i+1+k=i+(k+1) by omega];simpa using this
  simp only[y97_]at h;cases hb:(lexOk ops o i os&&(o.after.toList.all fun e => !Region.binds .any e||Nat.blt e.on i)) with
  |false=>rw[hb]at h;cases h
  | true=>
   rw[hb]at h;simp only[cond_true]at h;rw[Bool.and_eq_true]at hb;obtain⟨h1,h2⟩:=y78_ os (i+1) h hrest;refine⟨fun j oj hij hj e he hbe=>?_,fun a b oa ob hia hab ha hbb=>?_⟩
   ·rcases Nat.lt_or_ge i j with hlt|hge
    ·exact h1 j oj hlt hj e he hbe
    ·have:j=i:=by omega
     subst this;rw[ho]at hj;cases hj;have:=List.all_eq_true.1 hb.2 e (by simpa using he);simp only[hbe,Bool.not_true,Bool.false_or,Nat.blt_eq]at this;exact this
   ·rcases Nat.lt_or_ge i a with hlt|hge
    ·exact h2 a b oa ob hlt hab ha hbb
    ·have:a=i:=by omega
     subst this;rw[ho]at ha;cases ha;refine y8b_ os hb.1 ob ?_;have:=hrest (b-(a+1));rw[show a+1+(b-(a+1))=b by omega,hbb]at this;exact List.mem_of_getElem? this
theorem y4s_:∀(os:List Oper) (l:List Nat),y6j_ os l=true->(∀(i:Nat) o t,os[i]?=some o->o.dst=some t->t∉l)/\∀(i j:Nat) oi oj t,i<j->os[i]?=some oi->os[j]?=some oj->oi.dst=some t->oj.dst≠some t
 |[],l,_=>⟨fun i o t h=>by simp at h,fun i j oi oj t _ h=>by simp at h⟩
 | o::os,l,h=>by
  simp only[y6j_]at h
  split at h
  ·rename_i t ht
   cases hb:inL l t with
   |true=>rw[hb]at h;cases h
   | false=>
    rw[hb]at h;obtain⟨h1,h2⟩:=y4s_ os (t::l) h;have htl:t∉l:=fun hin=>by rw[(y81_ l t).2 hin]at hb;cases hb
    refine⟨fun i x s hx hs=>?_,fun i j oi oj s hij hi hj hs=>?_⟩
    ·cases i with
     |zero=>simp at hx;subst hx;rw[ht]at hs;cases hs;exact htl
     |succ i=>exact fun hin=>h1 i x s (by simpa using hx) hs (List.mem_cons_of_mem _ hin)
    ·cases j with
     |zero=>omega
     |succ j=>
      cases i with
      |zero=>simp at hi;subst hi;rw[ht]at hs;cases hs;exact fun hx=>h1 j oj t (by simpa using hj) hx List.mem_cons_self
      |succ i=>exact h2 i j oi oj s (by omega) (by simpa using hi) (by simpa using hj) hs
  ·rename_i ht
   obtain⟨h1,h2⟩:=y4s_ os l h;refine⟨fun i x s hx hs=>?_,fun i j oi oj s hij hi hj hs=>?_⟩
   ·cases i with
    |zero=>simp at hx;subst hx;rw[ht]at hs;cases hs
    |succ i=>exact h1 i x s (by simpa using hx) hs
   ·cases j with
    |zero=>omega
    |succ j=>
     cases i with
     |zero=>simp at hi;subst hi;rw[ht]at hs;cases hs
     |succ i=>exact h2 i j oi oj s (by omega) (by simpa using hi) (by simpa using hj) hs
end
section
open Go Go.RowKit
def cut(n:Nat)(m:Nat->Option Pl):Nat->Option Pl:=fun l=>if l<n then m l else none
theorem y24_{n:Nat}{m:Nat->Option Pl}:Sub (cut n m) m:=fun l p h=>by
 unfold cut at h;split at h
 ·exact h
 ·cases h
theorem y2n_{n k:Nat}{m m':Nat->Option Pl}(hn:n<=k)(S:Sub m m'):Sub (cut n m) (cut k m'):=fun l p h=>by
 unfold cut at h⊢
 split at h
 ·rw[if_pos (by omega)];exact S _ _ h
 ·cases h
theorem y1t_{n l:Nat}{m:Nat->Option Pl}(h:l<n):cut n m l=m l:=by unfold cut;rw[if_pos h]
theorem ydq_{n l:Nat}{m:Nat->Option Pl}{p:Pl}(h:cut n m l=some p):l<n:=by
 unfold cut at h;split at h
 ·assumption
 ·cases h
theorem Env.get_only(e:Env):∀(l:List Nat) (t:Nat) (v:AVal),(e.only l).get t=some v->t∈l/\e.get t=some v
 |[],t,v,h=>by simp[Env.only,Env.get]at h
 | s::l,t,v,h=>by
  simp only[Env.only]at h
  split at h
  ·rename_i u hu
   simp only[Env.get]at h;cases hb:Nat.beq s t with
   |true=>
    rw[hb]at h;have:=Nat.eq_of_beq_eq_true hb;subst this;simp at h;subst h;exact⟨List.mem_cons_self,hu⟩
   |false=>
    rw[hb]at h;obtain⟨h1,h2⟩:=Env.get_only e l t v (by simpa using h);exact⟨List.mem_cons_of_mem _ h1,h2⟩
  ·obtain⟨h1,h2⟩:=Env.get_only e l t v h
   exact⟨List.mem_cons_of_mem _ h1,h2⟩
theorem ybw_{ops:Array Oper}{o:Oper}{t:Nat}(h:t∈yc_ o):t∈o.looksAt ops:=by
 unfold Oper.looksAt;exact List.mem_append_left _ h
section
variable{Rt:Type}{C:Cx}{e:Env}{σ τ:Heap}{r:Rt}
theorem ybp_{o:Oper}(ha:yz_ o=true){K:AVal->Heap->Option Rt}(h:dop C e o σ K=some r) :
  ∃ob v,ob.rw=true/\K v (σ.new ob)=some r/\∀τ:Heap,τ.next=σ.next->∀{R2:Type} (K2:AVal->Heap->Option R2),dop C e o τ K2=K2 v (τ.new ob):=by
 cases hop:o.op
 all_goals simp only[yz_,hop]at ha
 case alloc t=>
  simp only[dop,hop]at h;obtain⟨ti,h,e1⟩:=y7_ h;exact⟨_,_,rfl,h,fun τ hτ R2 K2=>by simp only[dop,hop];rw[e1];simp only[newK,hτ]⟩
 case box t x=>
  simp only[dop,hop]at h;obtain⟨ti,h,e1⟩:=y7_ h;obtain⟨v,h,e2⟩:=y6_ h;obtain⟨vs,h,e3⟩:=y3r_ h;exact⟨_,_,rfl,h,fun τ hτ R2 K2=>by simp only[dop,hop];rw[e1,e2,e3];simp only[newK,hτ]⟩
 case buildSlice t n ps=>
  simp only[dop,hop]at h;obtain⟨ti,h,e1⟩:=y7_ h
  split at h
  ·rename_i el hk
   obtain⟨ei,h,e2⟩:=y7_ h;cases hb:Nat.ble (n*ei.size) 16777216 with
   |false=>rw[hb]at h;cases h
   |true=>
    rw[hb]at h;simp only[cond_true]at h;obtain⟨cs,h,e3⟩:=y3l_ h;exact⟨_,_,rfl,h,fun τ hτ R2 K2=>by simp only[dop,hop];rw[e1];simp only[hk];rw[e2];simp only[hb,cond_true];rw[e3];simp only[newK,hτ]⟩
  ·cases h
 case makeSlice t x y=>
  simp only[dop,hop]at h;obtain⟨ti,h,e1⟩:=y7_ h
  split at h
  ·rename_i el hk
   obtain⟨ei,h,e2⟩:=y7_ h;obtain⟨l,h,e3⟩:=y6_ h;obtain⟨c,h,e4⟩:=y6_ h;obtain⟨l',h,e5⟩:=y1q_ h;obtain⟨c',h,e6⟩:=y1q_ h;unfold mkS at h
   split at h
   ·rename_i hc
    exact⟨_,_,rfl,h,fun τ hτ R2 K2=>by simp only[dop,hop];rw[e1];simp only[hk];rw[e2,e3,e4,e5,e6];simp only[mkS];rw[if_pos hc];simp only[newK,hτ]⟩
   ·cases h
  ·cases h
 all_goals cases ha
theorem yff_{o:Oper}(hp:y8_ C o=true)(hrd:y10_ C o=false){K:AVal->Option Rt}:Le (dop C e o σ fun v _=>K v) (dop C e o τ fun v _=>K v):=by
 cases hop:o.op
 all_goals simp only[y8_,hop]at hp
 all_goals simp only[y10_,hop]at hrd
 all_goals simp only[dop,hop]
 case move=>exact Le.rfl
 case assign=>exact Le.rfl
 case pick=>exact Le.rfl
 case build=>exact Le.rfl
 case nilCheck=>exact Le.rfl
 case unOp=>exact Le.rfl
 case convert=>exact Le.rfl
 case makeInterface=>exact Le.rfl
 case makeFunc=>exact Le.rfl
 case fieldAddr=>exact Le.rfl
 case field=>exact Le.rfl
 case index=>exact Le.rfl
 case extract=>exact Le.rfl
 case load=>cases hrd
 case slice=>cases hrd
 case indexAddr=>cases hrd
 case binOp op t x y f=>
  unfold Cx.ti;cases ht:tiOf C.P t with
  |none=>exact Le.rfl
  |some ti=>
   rw[ht]at hrd;dsimp only at hrd⊢;refine ev_le fun a=>ev_le fun b=>?_;unfold binK
   split
   case h_8 hk=>rw[hk]at hrd;cases hrd
   all_goals exact Le.rfl
 case call c=>
  split at hp
  case h_6=>cases hp
  all_goals (rename_i hc;simp only[hc]at hrd⊢)
  ·revert hrd
   generalize c.argTypes.toList=ts;generalize c.args.toList=args;intro hrd
   match ts,args with
   |[],_=>exact Le.rfl
   |[t],[]=>exact Le.rfl
   | [t],[x]=>
    dsimp only at hrd;show Le (C.ti t _) (C.ti t _);unfold Cx.ti;cases ht:tiOf C.P t with
    |none=>exact Le.rfl
    |some ti=>
     rw[ht]at hrd;dsimp only at hrd⊢;refine ev_le fun v=>?_
     split
     ·exact Le.rfl
     ·exact Le.rfl
     ·rename_i hk;rw[hk]at hrd;cases hrd
     ·exact Le.rfl
   |[t],x::y::l=>exact Le.rfl
   |t::u::l,_=>exact Le.rfl
  ·exact ydb_
  ·exact ydi_
  ·cases hrd
  ·cases hrd
 all_goals cases hp
end
theorem y1b_{listed:Array Bool}{i j:Nat}(hi:i<listed.size):Ld (listed.setIfInBounds i true) j↔Ld listed j\/j=i:=by
 by_cases h:i=j
 ·subst h
  simp[Ld,hi]
 ·unfold Ld
  rw[getD_set_ne false h];constructor
  ·exact .inl
  ·rintro(h1|h1)
   ·exact h1
   ·exact absurd h1.symm h
structure Reg(C:Cx)(ops:Array Oper):Prop where
 sel:Region.noSelect ops=true
 dst:∀(i j:Nat) oi oj t,i≠j->ops[i]?=some oi->ops[j]?=some oj->oi.dst=some t->oj.dst≠some t
 back:∀(j:Nat) (o:Oper),ops[j]?=some o->∀e∈o.after,Region.binds .any e=true->e.on<j
 lex:∀(a b:Nat) oa ob,a<b->ops[a]?=some oa->ops[b]?=some ob->(∃e∈ob.after,Region.binds .any e=true/\e.on=a)\/oa.apart ops ob=true
 chain:∀(j:Nat) oj,ops[j]?=some oj->noisy C oj=true->∀(a:Nat) oa,a<j->ops[a]?=some oa->y8_ C oa=false->∀listed,y1p_ ops listed->(∀e∈oj.after,Region.binds .any e=true->Ld listed e.on)->Ld listed a
theorem ycw_{C:Cx}{ops:Array Oper}(h:y51_ C ops=true):Reg C ops:=by
 simp only[y51_,Bool.and_eq_true]at h;obtain⟨⟨⟨h1,h2⟩,h3⟩,h4⟩:=h;have hos:∀k:Nat,ops.toList[k]?=ops[0+k]?:=fun k=>by simp
 obtain⟨h5,h6⟩:=y78_ ops.toList 0 h3 hos;obtain⟨_,h7⟩:=y4s_ ops.toList [] h2;refine⟨h1,fun i j oi oj t hij hi hj hti htj=>?_,fun j o=>h5 j o (Nat.zero_le _),fun a b oa ob=>h6 a b oa ob (Nat.zero_le _),fun j oj hj hn a oa haj ha hp=>?_⟩
 ·rcases Nat.lt_or_ge i j with hlt|hge
  ·exact h7 i j oi oj t hlt (by simpa using hi) (by simpa using hj) hti htj
  ·exact h7 j i oj oi t (by omega) (by simpa using hj) (by simpa using hi) htj hti
 ·exact y3x_ (fun j o=>h5 j o (Nat.zero_le _)) ops.toList 0 [] h4 hos (fun a oa h=>by omega) j oj (Nat.zero_le _) hj hn a oa haj ha hp
end
section
open Go Go.RowKit
def Al(C:Cx)(ops:Array Oper)(W:Nat->Bool)(k:Nat):Prop:=∃o,ops[k]?=some o/\y8_ C o=false/\yz_ o=true/\W k=true
def No(C:Cx)(ops:Array Oper)(W:Nat->Bool)(k:Nat):Prop:=∃o,ops[k]?=some o/\noisy C o=true/\W k=true
mutual
def Lt(n:Nat):AVal->Prop
 | .ptr l _=>l<n
 | .sl l _ _ _=>l<n
 | .map l=>l<n
 | .fn _ a b=>Lts n a/\Lts n b
 | .ifc _ v=>Lt n v
 | .agg cs=>Lts n cs
 | .tup vs=>Lts n vs
 | .bool _=>True
 | .int _ _=>True
 | .str _=>True
 | .nilp=>True
 | .nils=>True
 | .box l=>l<n
 | .nilm=>True
 | .nilf=>True
 | .nili=>True
def Lts(n:Nat):List AVal->Prop
 |[]=>True
 |a::as0=>Lt n a/\Lts n as0
end
mutual
theorem VR.lt{m:Nat->Option Pl}{n:Nat}(h:∀l p,m l=some p->l<n):∀(a:AVal) (v:Value),VR m a v->Lt n a
 | .bool _,_,_=>by simp only[Lt]
 | .int _ _,_,_=>by simp only[Lt]
 | .str _,_,_=>by simp only[Lt]
 | .ptr _ _,_,e=>by simp only[VR]at e;obtain⟨p,h1,_⟩:=e;simp only[Lt];exact h _ _ h1
 | .nilp,_,_=>by simp only[Lt]
 | .sl _ _ _ _,_,e=>by simp only[VR]at e;obtain⟨p,_,_,h1,_⟩:=e;simp only[Lt];exact h _ _ h1
 | .nils,_,_=>by simp only[Lt]
 | .box _,_,e=>by simp only[VR]at e;obtain⟨p,h1,_⟩:=e;simp only[Lt];exact h _ _ h1
 | .map _,_,e=>by simp only[VR]at e;obtain⟨p,h1,_⟩:=e;simp only[Lt];exact h _ _ h1
 | .nilm,_,_=>by simp only[Lt]
 | .fn _ a b,_,e=>by
  simp only[VR]at e;obtain⟨x,y,_,h2,h3⟩:=e;simp only[Lt];exact⟨VRs.lt h a x h2,VRs.lt h b y h3⟩
 | .nilf,_,_=>by simp only[Lt]
 | .ifc _ x,_,e=>by simp only[VR]at e;obtain⟨y,_,h2⟩:=e;simp only[Lt];exact VR.lt h x y h2
 | .nili,_,_=>by simp only[Lt]
 | .agg cs,_,e=>by simp only[VR]at e;obtain⟨vs,_,h2,_⟩:=e;simp only[Lt];exact VRs.lt h cs vs h2
 | .tup cs,_,e=>by simp only[VR]at e;obtain⟨vs,_,h2⟩:=e;simp only[Lt];exact VRs.lt h cs vs h2
theorem VRs.lt{m:Nat->Option Pl}{n:Nat}(h:∀l p,m l=some p->l<n):∀(as0:List AVal) (vs:List Value),VRs m as0 vs->Lts n as0
 |[],_,_=>by simp only[Lts]
 |a::as0,vs,e=>by simp only[VRs]at e;obtain⟨v,vs',_,h2,h3⟩:=e;simp only[Lts];exact⟨VR.lt h a v h2,VRs.lt h as0 vs' h3⟩
end
mutual
theorem VR.cut{m:Nat->Option Pl}{n:Nat}:∀(a:AVal) (v:Value),Lt n a->VR m a v->VR (A.cut n m) a v
 | .bool _,_,_,e=>by simp only[VR]at e⊢;exact e
 | .int _ _,_,_,e=>by simp only[VR]at e⊢;exact e
 | .str _,_,_,e=>by simp only[VR]at e⊢;exact e
 | .ptr _ _,_,h,e=>by simp only[Lt]at h;simp only[VR]at e⊢;obtain⟨p,h1,h2⟩:=e;exact⟨p,by rw[y1t_ h];exact h1,h2⟩
 | .nilp,_,_,e=>by simp only[VR]at e⊢;exact e
 | .sl _ _ _ _,_,h,e=>by simp only[Lt]at h;simp only[VR]at e⊢;obtain⟨p,cv,o,h1,h2⟩:=e;exact⟨p,cv,o,by rw[y1t_ h];exact h1,h2⟩
 | .nils,_,_,e=>by simp only[VR]at e⊢;exact e
 | .box _,_,h,e=>by simp only[Lt]at h;simp only[VR]at e⊢;obtain⟨p,h1,h2⟩:=e;exact⟨p,by rw[y1t_ h];exact h1,h2⟩
 | .map _,_,h,e=>by simp only[Lt]at h;simp only[VR]at e⊢;obtain⟨p,h1,h2⟩:=e;exact⟨p,by rw[y1t_ h];exact h1,h2⟩
 | .nilm,_,_,e=>by simp only[VR]at e⊢;exact e
 | .fn _ a b,_,h,e=>by
  simp only[Lt]at h;simp only[VR]at e⊢;obtain⟨x,y,h1,h2,h3⟩:=e;exact⟨x,y,h1,VRs.cut a x h.1 h2,VRs.cut b y h.2 h3⟩
 | .nilf,_,_,e=>by simp only[VR]at e⊢;exact e
 | .ifc _ x,_,h,e=>by simp only[Lt]at h;simp only[VR]at e⊢;obtain⟨y,h1,h2⟩:=e;exact⟨y,h1,VR.cut x y h h2⟩
 | .nili,_,_,e=>by simp only[VR]at e⊢;exact e
 | .agg cs,_,h,e=>by simp only[Lt]at h;simp only[VR]at e⊢;obtain⟨vs,h1,h2,h3⟩:=e;exact⟨vs,h1,VRs.cut cs vs h h2,h3⟩
 | .tup cs,_,h,e=>by simp only[Lt]at h;simp only[VR]at e⊢;obtain⟨vs,h1,h2⟩:=e;exact⟨vs,h1,VRs.cut cs vs h h2⟩
theorem VRs.cut{m:Nat->Option Pl}{n:Nat}:∀(as0:List AVal) (vs:List Value),Lts n as0->VRs m as0 vs->VRs (A.cut n m) as0 vs
 |[],_,_,e=>by simp only[VRs]at e⊢;exact e
 |a::as0,vs,h,e=>by simp only[Lts]at h;simp only[VRs]at e⊢;obtain⟨v,vs',h1,h2,h3⟩:=e;exact⟨v,vs',h1,VR.cut a v h.1 h2,VRs.cut as0 vs' h.2 h3⟩
end
structure Sit(C:Cx)(ops:Array Oper)(E:Nat->Env)(H Z:Nat->Heap)(W:Nat->Bool)(V:Nat->AVal)(B:Nat->Prop)(w0:Base)(m0:Nat->Option Pl)(a0:Act):Prop where
 reg:Reg C ops
 run:RunOk C ops.toList (masks ops.toList []) ops.toList 0 [] [] E H Z W V
 hz0:H 0=Z 0
 env0:∀t u,(E 0).get t=some u->VR m0 u (a0.tmps.getD t undef)
 glob:GlobR C.NG m0
 m0lt:∀l p,m0 l=some p->l<(Z 0).next
 w0n:w0.n<=(Z 0).next
 hC:∀f s,C.calls f=some s->SpecOk C.P C.NG f s
 pm:w0.pm=true->yh_ C ops.toList=true
 cl:∀i,i<ops.size->Lt (Z (i+1)).next (V i)
structure HInv(C:Cx)(ops:Array Oper)(Z:Nat->Heap)(W:Nat->Bool)(B:Nat->Prop)(w0:Base)(m0:Nat->Option Pl)(listed:Array Bool)(p:Nat)(mc:Nat->Option Pl)(G:Heap)(w:World):Prop where
 size:listed.size=ops.size
 closed:y1p_ ops listed
 pn:p<=ops.size
 nois:∀j,No C ops W j->(Ld listed j↔j<p)
 pos:p=0\/∃j,p=j+1/\No C ops W j
 sub:Sub m0 mc
 dom:∀l pl,mc l=some pl->l<(Z p).next\/∃k,p<=k/\Ld listed k/\Al C ops W k/\l=(Z k).next
 r:R B w0 mc G w
 gn:G.next=(Z ops.size).next
 gz:∀l o,(Z p).get l=some o->G.get l=some o
 zlt:∀l o,(Z p).get l=some o->l<(Z p).next
 gp:∀k,p<=k->Ld listed k->Al C ops W k->G.get (Z k).next=(Z (k+1)).get (Z k).next
 gd:∀l o,G.get l=some o->(l<(Z p).next/\(Z p).get l=some o)\/∃k,p<=k/\Ld listed k/\Al C ops W k/\l=(Z k).next
 zobj:∀l o,(Z p).get l=some o->∃pl,mc l=some pl/\ObjR (cut (Z p).next mc) pl o w
 pobj:∀k o,p<=k->Ld listed k->Al C ops W k->(Z (k+1)).get (Z k).next=some o->∃pl,mc (Z k).next=some pl/\ObjR (cut (Z (k+1)).next mc) pl o w
structure AInv(C:Cx)(ops:Array Oper)(Z:Nat->Heap)(V:Nat->AVal)(a0:Act)(listed:Array Bool)(mc:Nat->Option Pl)(a:Act):Prop where
 vals:∀i o t,ops[i]?=some o->Ld listed i->o.dst=some t->VR (cut (Z (i+1)).next mc) (V i) (a.tmps.getD t undef)
 old:∀t,(∀i o,ops[i]?=some o->Ld listed i->o.dst≠some t)->a.tmps.getD t undef=a0.tmps.getD t undef
 asz:a.tmps.size=C.n
 defers:a.defers=a0.defers
section
variable{C:Cx}{ops:Array Oper}{E:Nat->Env}{H Z:Nat->Heap}{W:Nat->Bool}{V:Nat->AVal}{B:Nat->Prop}{w0:Base}{m0:Nat->Option Pl}{a0:Act}
theorem Sit.stp(hs:Sit C ops E H Z W V B w0 m0 a0){k:Nat}{o:Oper}(ho:ops[k]?=some o):StepOk C ops.toList o (E k) (E (k+1)) (H k) (H (k+1)) (Z k) (Z (k+1)) (W k) (V k):=
 hs.run.step k o (by simpa using ho)
theorem Sit.op(k:Nat)(h:k<ops.size):∃o,ops[k]?=some o:=⟨_,Array.getElem?_eq_getElem h⟩
theorem Sit.grw(hs:Sit C ops E H Z W V B w0 m0 a0):∀(j i:Nat),i<=j->j<=ops.size->Grw (Z i) (Z j)
  | 0, i, h, _ => by have:i=0:=by omega
                     subst this;exact Grw.refl _
  | j+1,i,h,hj=>by
    by_cases e:i=j+1
    · subst e;exact Grw.refl _
    · obtain⟨o,ho⟩:=Sit.op (ops:=ops) j (by omega)
      exact(hs.grw j i (by omega) (by omega)).trans (hs.stp ho).next
theorem Sit.mono(hs:Sit C ops E H Z W V B w0 m0 a0){i j:Nat}(h:i<=j)(hj:j<=ops.size):(Z i).next<=(Z j).next:=(hs.grw j i h hj).next
theorem Al.lt{k:Nat}(h:Al C ops W k):k<ops.size:=let⟨_,ho,_⟩:=h;(Array.getElem?_eq_some_iff.1 ho).1
theorem Al.no{k:Nat}(h:Al C ops W k):¬No C ops W k:=fun⟨o,h1,h2,_⟩=>by
 obtain⟨o',h3,h4,h5,_⟩:=h;rw[h1]at h3;cases h3;simp[noisy,h5]at h2
theorem Sit.al(hs:Sit C ops E H Z W V B w0 m0 a0){k:Nat}{o:Oper}(ho:ops[k]?=some o)(h:Al C ops W k) :
  ∃ob,ob.rw=true/\Z (k+1)=(Z k).new ob/\∀τ:Heap,τ.next=(Z k).next->∀{R2:Type} (K2:AVal->Heap->Option R2),dop C ((E k).only (yc_ o)) o τ K2=K2 (V k) (τ.new ob):=by
 obtain⟨o',ho',h1,h2,h3⟩:=h;rw[ho]at ho';cases ho';have h4:=((hs.stp ho).alloc h3 h1 h2).1 (AVal×Heap) (fun v σ=>some (v,σ));obtain⟨ob,v,h5,h6,h7⟩:=ybp_ h2 h4;obtain⟨e1,e2⟩:=Prod.mk.inj (Option.some.inj h6);exact⟨ob,h5,e2.symm,fun τ hτ R2 K2=>by rw[<-e1];exact h7 τ hτ K2⟩
theorem Sit.al_next(hs:Sit C ops E H Z W V B w0 m0 a0){k:Nat}(h:Al C ops W k):(Z (k+1)).next=(Z k).next+1:=by
 obtain⟨o,ho,_⟩:=id h;obtain⟨ob,_,h1,_⟩:=hs.al ho h;rw[h1];rfl
theorem Sit.al_lt(hs:Sit C ops E H Z W V B w0 m0 a0){k j:Nat}(h:Al C ops W k)(hkj:k<j)(hj:j<=ops.size):(Z k).next<(Z j).next:=by
 have:=hs.al_next h;have:=hs.mono (i:=k+1) (j:=j) (by omega) hj;omega
theorem Sit.al_inj(hs:Sit C ops E H Z W V B w0 m0 a0){k j:Nat}(h:Al C ops W k)(h':Al C ops W j)(he:(Z k).next=(Z j).next):k=j:=by
 rcases Nat.lt_trichotomy k j with h1|h1|h1
 ·have:=hs.al_lt h h1 (Nat.le_of_lt h'.lt);omega
 ·exact h1
 ·have:=hs.al_lt h' h1 (Nat.le_of_lt h.lt);omega
theorem Sit.quietH(hs:Sit C ops E H Z W V B w0 m0 a0){k:Nat}(hk:k<ops.size)(h:¬No C ops W k):H (k+1)=H k:=by
 obtain⟨o,ho⟩:=Sit.op (ops:=ops) k hk;have hst:=hs.stp ho;cases hw:W k with
 |false=>exact(hst.off hw).2.2
 | true=>
  cases hp:y8_ C o with
  |true=>exact(hst.pure hw hp).2.2
  |false=>
   cases ha:yz_ o with
   |true=>exact(hst.alloc hw hp ha).2
   |false=>exact absurd ⟨o,ho,by simp[noisy,hp,ha],hw⟩ h
theorem Sit.quietZ(hs:Sit C ops E H Z W V B w0 m0 a0){k:Nat}(hk:k<ops.size)(h:¬No C ops W k)(h':¬Al C ops W k):Z (k+1)=Z k:=by
 obtain⟨o,ho⟩:=Sit.op (ops:=ops) k hk;have hst:=hs.stp ho;cases hw:W k with
 |false=>exact(hst.off hw).2.1
 | true=>
  cases hp:y8_ C o with
  |true=>exact(hst.pure hw hp).2.1
  |false=>
   cases ha:yz_ o with
   |true=>exact absurd ⟨o,ho,hp,ha,hw⟩ h'
   |false=>exact absurd ⟨o,ho,by simp[noisy,hp,ha],hw⟩ h
theorem Sit.noH(hs:Sit C ops E H Z W V B w0 m0 a0){k:Nat}(h:No C ops W k):H (k+1)=Z (k+1):=by
 obtain⟨o,ho,h1,h2⟩:=h;exact((hs.stp ho).noisy h2 h1).2
theorem Sit.hp(hs:Sit C ops E H Z W V B w0 m0 a0){p:Nat}(h:p=0\/∃j,p=j+1/\No C ops W j):H p=Z p:=by
 rcases h with rfl|⟨j,rfl,h⟩
 ·exact hs.hz0
 ·exact hs.noH h
theorem Sit.constH(hs:Sit C ops E H Z W V B w0 m0 a0){p:Nat}:∀(q:Nat),p<=q->q<=ops.size->(∀k,p<=k->k<q->¬No C ops W k)->H q=H p
  | 0, h, _, _ => by have:p=0:=by omega
                     subst this;rfl
  | q+1,h,hq,hn=>by
    by_cases e:p=q+1
    · subst e;rfl
    · rw[hs.quietH (by omega) (hn q (by omega) (by omega))]
      exact hs.constH q (by omega) (by omega) (fun k h1 h2=>hn k h1 (by omega))
theorem Sit.between(hs:Sit C ops E H Z W V B w0 m0 a0){p:Nat}:∀(q:Nat),p<=q->q<=ops.size->(∀k,p<=k->k<q->¬No C ops W k)->∀l o,(Z q).get l=some o ->
    (Z p).get l=some o\/∃k,p<=k/\k<q/\Al C ops W k/\l=(Z k).next/\(Z (k+1)).get l=some o
  | 0, h, _, _, l, o, hl => by have:p=0:=by omega
                               subst this;exact .inl hl
  | q+1,h,hq,hn,l,o,hl=>by
    by_cases e:p=q+1
    · subst e;exact .inl hl
    · have prv:=hs.between (p:=p) q (by omega) (by omega) (fun k h1 h2=>hn k h1 (by omega)) l o
      have up:(Z p).get l=some o\/(∃k,p<=k/\k<q/\Al C ops W k/\l=(Z k).next/\(Z (k+1)).get l=some o)->(Z p).get l=some o\/∃k,p<=k/\k<q+1/\Al C ops W k/\l=(Z k).next/\(Z (k+1)).get l=some o:=fun h=>
        h.imp id fun⟨k,h1,h2,h3⟩=>⟨k,h1,by omega,h3⟩
      by_cases ha:Al C ops W q
      · obtain⟨oq,hoq,_⟩:=id ha
        obtain⟨ob,_,h1,_⟩:=hs.al hoq ha;by_cases el:l=(Z q).next
        · exact .inr ⟨q,by omega,by omega,ha,el,hl⟩
        · rw[h1]at hl
          simp only[Heap.new,if_neg el]at hl;exact up (prv hl)
      · rw[hs.quietZ (by omega) (hn q (by omega) (by omega)) ha]at hl
        exact up (prv hl)
theorem Sit.envGet(hs:Sit C ops E H Z W V B w0 m0 a0):∀(i:Nat),i<=ops.size->∀t u,(E i).get t=some u ->
  (∃j o,j<i/\ops[j]?=some o/\o.dst=some t/\u=V j)\/((∀j o,j<i->ops[j]?=some o->o.dst≠some t)/\(E 0).get t=some u)
 |0,_,t,u,h=>.inr ⟨fun j o h=>by omega,h⟩
 | i+1,hi,t,u,h=>by
  obtain⟨o,ho⟩:=Sit.op (ops:=ops) i (by omega);rw[(hs.stp ho).env t]at h;by_cases e:o.dst=some t
  ·rw[if_pos e]at h;cases h
   exact .inl ⟨i,o,by omega,ho,e,rfl⟩
  ·rw[if_neg e]at h
   rcases hs.envGet i (by omega) t u h with ⟨j,oj,h1,h2⟩|⟨h1,h2⟩
   ·exact .inl ⟨j,oj,by omega,h2⟩
   ·refine .inr ⟨fun j oj hj hoj=>?_,h2⟩
    rcases Nat.lt_or_ge j i with hlt|hge
    ·exact h1 j oj hlt hoj
    ·have:j=i:=by omega
     subst this;rw[ho]at hoj;cases hoj;exact e
theorem Sit.sub0(hs:Sit C ops E H Z W V B w0 m0 a0){mc:Nat->Option Pl}(S:Sub m0 mc){i:Nat}(hi:i<=ops.size):Sub m0 (cut (Z i).next mc):=fun l p h=>by
 rw[y1t_ (Nat.lt_of_lt_of_le (hs.m0lt l p h) (hs.mono (Nat.zero_le i) hi))];exact S l p h
theorem Sit.looks(hs:Sit C ops E H Z W V B w0 m0 a0){listed:Array Bool}{mc:Nat->Option Pl}{a:Act}(hsz:listed.size=ops.size)(hcl:y1p_ ops listed)(S:Sub m0 mc)(ha:AInv C ops Z V a0 listed mc a){i:Nat}{o:Oper}(ho:ops[i]?=some o)(hu:¬Ld listed i)
  (hl:∀e∈o.after,Region.binds .any e=true->Ld listed e.on) {t:Nat} (ht:t∈o.looksAt ops) {u:AVal} (hg:(E i).get t=some u):VR (cut (Z i).next mc) u (a.tmps.getD t undef):=by
 have hi:=(Array.getElem?_eq_some_iff.1 ho).1;rcases hs.envGet i (Nat.le_of_lt hi) t u hg with ⟨j,oj,h1,h2,h3,h4⟩|⟨h1,h2⟩
 ·subst h4
  rcases hs.reg.lex j i oj o h1 h2 ho with ⟨e,he,hb,hj⟩|hap
  ·have:=hl e he hb
   rw[hj]at this;exact VR.mono (y2n_ (hs.mono (by omega) (Nat.le_of_lt hi)) (Sub.refl mc)) _ _ (ha.vals j oj t h2 this h3)
  ·exact absurd ht ((Oper.apart_spec hap).1 t h3)
 ·rw[ha.old t fun j oj hj hlj hd=>?_]
  ·exact VR.mono (hs.sub0 S (Nat.le_of_lt hi)) _ _ (hs.env0 t u h2)
  ·rcases Nat.lt_trichotomy j i with h|h|h
   ·exact h1 j oj h hj hd
   ·subst h;exact hu hlj
   ·rcases hs.reg.lex i j o oj h ho hj with ⟨e,he,hb,hji⟩|hap
    ·have:=hcl j oj hj hlj e he hb
     rw[hji]at this;exact hu this
    ·exact(Oper.apart_spec hap).2.2 t hd ht
theorem Sit.envR(hs:Sit C ops E H Z W V B w0 m0 a0){listed:Array Bool}{mc:Nat->Option Pl}{a:Act}(hsz:listed.size=ops.size)(hcl:y1p_ ops listed)(S:Sub m0 mc)(ha:AInv C ops Z V a0 listed mc a){i:Nat}{o:Oper}(ho:ops[i]?=some o)(hu:¬Ld listed i)
  (hl:∀e∈o.after,Region.binds .any e=true->Ld listed e.on):EnvR C (cut (Z i).next mc) ((E i).only (yc_ o)) a:=by
 refine⟨fun t u hg=>?_,fun g hgg=>?_,ha.asz⟩
 ·obtain⟨h1,h2⟩:=Env.get_only _ _ _ _ hg
  exact hs.looks hsz hcl S ha ho hu hl (ybw_ h1) h2
 ·obtain⟨p,h1,h2⟩:=hs.glob g hgg
  exact⟨p,hs.sub0 S (Nat.le_of_lt (Array.getElem?_eq_some_iff.1 ho).1) g p h1,h2⟩
theorem Sit.wanted(hs:Sit C ops E H Z W V B w0 m0 a0){listed:Array Bool}{mc:Nat->Option Pl}{a:Act}(hsz:listed.size=ops.size)(hcl:y1p_ ops listed)(S:Sub m0 mc)(ha:AInv C ops Z V a0 listed mc a){i:Nat}{o:Oper}(ho:ops[i]?=some o)(hu:¬Ld listed i)
  (hl:∀e∈o.after,Region.binds .any e=true->Ld listed e.on):Region.wanted o (yielded ops a.tmps)=W i:=by
 cases hg:o.guard with
 |none=>rw[(hs.stp ho).guard hg];simp[Region.wanted,hg]
 | some g=>
  obtain⟨g,want⟩:=g;obtain⟨oj,t,h1,h2,h3⟩:=(hs.stp ho).guarded g want hg;have h1':ops[g]?=some oj:=by simpa using h1
  have ht:t∈o.looksAt ops:=by
   unfold Oper.looksAt;exact List.mem_append_right _ (by simp[hg,h1',h2])
  rcases h3 with ⟨c,h4,h5⟩|⟨h4,h5⟩
  ·have hval:=hs.looks hsz hcl S ha ho hu hl ht h4
   simp only[VR]at hval;have hin:a.tmps[t]?=some (.bool c):=by
    rw[Array.getD_eq_getD_getElem?]at hval;cases hx:a.tmps[t]? with
    |none=>rw[hx]at hval;simp[undef]at hval
    |some x=>rw[hx]at hval;simpa using hval
   have hyield:yielded ops a.tmps g=some c:=by simp[yielded,h1',h2,hin]
   rw[h5];simp only[Region.wanted,hg,hyield];cases c<;>cases want<;>rfl
  ·have hval:=hs.looks hsz hcl S ha ho hu hl ht h4
   simp only[VR]at hval;obtain⟨vs,hval,_⟩:=hval;have hyield:yielded ops a.tmps g=none:=by
    simp only[yielded,h1',Option.bind_some,h2];rw[Array.getD_eq_getD_getElem?]at hval;cases hx:a.tmps[t]? with
    |none=>rfl
    |some x=>rw[hx]at hval;simp only[Option.getD_some]at hval;rw[hval]
   rw[h5];simp only[Region.wanted,hg,hyield];rfl
theorem Sit.put(hs:Sit C ops E H Z W V B w0 m0 a0){listed:Array Bool}{mc mc':Nat->Option Pl}{a:Act}(hsz:listed.size=ops.size)(ha:AInv C ops Z V a0 listed mc a){i:Nat}{o:Oper}(ho:ops[i]?=some o)(S:Sub mc mc'){cv:Value}(hv:VR (cut (Z (i+1)).next mc') (V i) cv) :
  AInv C ops Z V a0 (listed.setIfInBounds i true) mc' (a.put o.dst cv):=by
 have hi:=(Array.getElem?_eq_some_iff.1 ho).1;refine⟨fun j oj t hj hlj hd=>?_,fun t ht=>?_,by rw[yba_];exact ha.asz,by rw[y5v_];exact ha.defers⟩
 ·rw[y4e_]
  by_cases e:j=i
  ·subst e;rw[ho]at hj;cases hj
   rw[if_pos ⟨hd,by rw[ha.asz];exact(hs.stp ho).dst t hd⟩];exact hv
  ·rw[if_neg (fun x=>hs.reg.dst j i oj o t e hj ho hd x.1)]
   exact VR.mono (y2n_ (Nat.le_refl _) S) _ _ (ha.vals j oj t hj (((y1b_ (by omega)).1 hlj).resolve_right e) hd)
 ·rw[y4e_,if_neg (fun x=>ht i o ho ((y1b_ (by omega)).2 (.inr rfl)) x.1)]
  exact ha.old t fun j oj hj hlj=>ht j oj hj ((y1b_ (by omega)).2 (.inl hlj))
theorem y59_{listed:Array Bool}(hsz:listed.size=ops.size)(hcl:y1p_ ops listed){i:Nat}{o:Oper}(ho:ops[i]?=some o)(hl:∀e∈o.after,Region.binds .any e=true->Ld listed e.on):y1p_ ops (listed.setIfInBounds i true):=fun j oj hj hlj e he hb=>by
 have hi:=(Array.getElem?_eq_some_iff.1 ho).1;refine(y1b_ (by omega)).2 (.inl ?_);rcases(y1b_ (by omega)).1 hlj with h|h
 ·exact hcl j oj hj h e he hb
 ·subst h;rw[ho]at hj;cases hj;exact hl e he hb
end
end
section
open Go Go.RowKit
theorem least{P:Nat->Prop}:∀(n:Nat),P n->∃k,k<=n/\P k/\∀j,j<k->¬P j:=by
 intro n
 induction n using Nat.strongRecOn with
 | ind n ih=>
  intro h;by_cases hx:∃j,j<n/\P j
  ·obtain⟨j,h1,h2⟩:=hx
   obtain⟨k,h3,h4,h5⟩:=ih j h1 h2;exact⟨k,by omega,h4,h5⟩
  ·exact⟨n,Nat.le_refl _,h,fun j hj hp=>hx ⟨j,hj,hp⟩⟩
theorem R.all_pure{B:Nat->Prop}{w0:Base}{m:Nat->Option Pl}{σ:Heap}{w:World}(h:R B w0 m σ w):R (fun k=>k<w.heap.size) ⟨w,σ.next,m,true⟩ m σ w:=
 ⟨h.obj,h.dom,h.excl,(fun(hpm:true=false)=>nomatch hpm),Keeps.refl _ _,fun k hk=>hk,Nat.le_refl _,fun _ _=>rfl⟩
theorem R.bare{m:Nat->Option Pl}{w:World}(n:Nat)(hd:∀l q,m l=some q->l<n/\q.blk<w.heap.size):R (fun k=>k<w.heap.size) ⟨w,n,m,false⟩ m ⟨n,fun _=>none⟩ w:=by
 refine⟨fun l o h=>?_,hd,fun l l' o o' q q' _ h=>?_,fun _ l o q h=>?_,Keeps.refl _ _,fun k hk=>hk,Nat.le_refl _,fun _ _=>rfl⟩<;>cases h
section
variable{C:Cx}{ops:Array Oper}{E:Nat->Env}{H Z:Nat->Heap}{W:Nat->Bool}{V:Nat->AVal}{B:Nat->Prop}{w0:Base}{m0:Nat->Option Pl}{a0:Act}
theorem Sit.same(hs:Sit C ops E H Z W V B w0 m0 a0){listed:Array Bool}{p:Nat}{mc:Nat->Option Pl}{G:Heap}{w w':World}(hh:HInv C ops Z W B w0 m0 listed p mc G w){i:Nat}{o:Oper}(ho:ops[i]?=some o)
  (hl:∀e∈o.after,Region.binds .any e=true->Ld listed e.on) (hno:¬No C ops W i) (hal:¬Al C ops W i) (hr:R B w0 mc G w') (hb:∀k,k<w.heap.size->w'.heap[k]?=w.heap[k]?) :
  HInv C ops Z W B w0 m0 (listed.setIfInBounds i true) p mc G w':=by
 have hi:i<listed.size:=by rw[hh.size];exact(Array.getElem?_eq_some_iff.1 ho).1
 have up:∀{k},Ld listed k->Ld (listed.setIfInBounds i true) k:=fun h=>(y1b_ hi).2 (.inl h);have down:∀{k},Ld (listed.setIfInBounds i true) k->k≠i->Ld listed k:=fun h hne=>((y1b_ hi).1 h).resolve_right hne;refine⟨by simp[hh.size],y59_ hh.size hh.closed ho hl,hh.pn,fun j hj=>?_,hh.pos,hh.sub,fun l pl h=>?_,hr,hh.gn,hh.gz,hh.zlt,fun k h1 h2 h3=>?_,fun l x h=>?_,fun l x h=>?_,fun k x h1 h2 h3 h4=>?_⟩
 ·have hne:j≠i:=fun e=>hno (e▸hj)
  rw[<-hh.nois j hj];exact⟨fun h=>down h hne,up⟩
 ·exact(hh.dom l pl h).imp id fun⟨k,h1,h2,h3⟩=>⟨k,h1,up h2,h3⟩
 ·exact hh.gp k h1 (down h2 fun e=>hal (e▸h3)) h3
 ·exact(hh.gd l x h).imp id fun⟨k,h1,h2,h3⟩=>⟨k,h1,up h2,h3⟩
 ·obtain⟨pl,h1,h2⟩:=hh.zobj l x h
  exact⟨pl,h1,h2.mono (Sub.refl _) (hb _ (hh.r.dom l pl h1).2)⟩
 ·obtain⟨pl,h5,h6⟩:=hh.pobj k x h1 (down h2 fun e=>hal (e▸h3)) h3 h4
  exact⟨pl,h5,h6.mono (Sub.refl _) (hb _ (hh.r.dom _ pl h5).2)⟩
theorem Sit.runs(hs:Sit C ops E H Z W V B w0 m0 a0){listed:Array Bool}{p:Nat}{mc:Nat->Option Pl}{G:Heap}{w:World}(hh:HInv C ops Z W B w0 m0 listed p mc G w){i:Nat}{o:Oper}(ho:ops[i]?=some o)(hu:¬Ld listed i)
  (hl:∀e∈o.after,Region.binds .any e=true->Ld listed e.on) (hw:W i=true) (hp:y8_ C o=true):dop C ((E i).only (yc_ o)) o (Z p) (fun v _=>some v)=some (V i):=by
 have hi:=(Array.getElem?_eq_some_iff.1 ho).1;have hst:Runs C ((E i).only (yc_ o)) o (H i) (V i):=((hs.stp ho).pure hw hp).1;have of:∀σ,Runs C ((E i).only (yc_ o)) o σ (V i)->dop C ((E i).only (yc_ o)) o σ (fun v _=>some v)=some (V i):=fun σ ⟨_,h⟩=>h _ _;cases hrd:y10_ C o with
 |false=>exact yff_ hp hrd _ (of _ hst)
 | true=>
  have hHp:=hs.hp hh.pos;have hos:ops.toList[i]?=some o:=by simpa using ho
  rcases Nat.lt_or_ge i p with hip|hip
  ·rcases hh.pos with h0|⟨j,hj,hNo⟩
   ·omega
   ·obtain⟨oj,hoj,hnj,hwj⟩:=id hNo
    have hij:i<j:=by
     rcases Nat.lt_or_ge i j with h|h
     ·exact h
     ·have:i=j:=by omega
      subst this;rw[ho]at hoj;cases hoj;simp[noisy,hp]at hnj
    have:=hs.run.fwd i j o oj hij hos (by simpa using hoj) hw hwj hp hrd hnj (by
     rw[Nat.zero_add,Nat.zero_add];cases hah:ahead (masks ops.toList []) i j with
     |false=>rfl
     |true=>
      have hlj:Ld listed j:=(hh.nois j hNo).2 (by omega);exact absurd (y7z_ hs.reg.back hh.closed j i oj hoj hah (fun e he hb=>hh.closed j oj hoj hlj e he hb)) hu)
    rw[hj];exact of _ this
  ·by_cases hex:∃k,p<=k/\k<i/\No C ops W k
   ·obtain⟨k0,h0⟩:=hex
    obtain⟨k,_,⟨h1,h2,h3⟩,h4⟩:=least (P:=fun k=>p<=k/\k<i/\No C ops W k) k0 h0;have hc:=hs.constH k h1 (by omega) (fun q q1 q2 q3=>h4 q q2 ⟨q1,by omega,q3⟩);obtain⟨ok,hok,hnk,hwk⟩:=id h3;have:=hs.run.bwd i k o ok h2 hos (by simpa using hok) hw hwk hp hrd hnk (by
     rw[Nat.zero_add,Nat.zero_add];cases hah:ahead (masks ops.toList []) k i with
     |false=>rfl
     |true=>
      have:=y7z_ hs.reg.back hh.closed i k o ho hah hl;have:=(hh.nois k h3).1 this;omega)
    rw[hc,hHp]at this;exact of _ this
   ·have hc:=hs.constH i hip (by omega) (fun q q1 q2 q3=>hex ⟨q,q1,q2,q3⟩)
    rw[hc,hHp]at hst;exact of _ hst
theorem Sit.pureStep(hs:Sit C ops E H Z W V B w0 m0 a0){listed:Array Bool}{p:Nat}{mc:Nat->Option Pl}{G:Heap}{w:World}{a:Act}(hh:HInv C ops Z W B w0 m0 listed p mc G w)(ha:AInv C ops Z V a0 listed mc a){i:Nat}{o:Oper}(ho:ops[i]?=some o)(hu:¬Ld listed i)
  (hl:∀e∈o.after,Region.binds .any e=true->Ld listed e.on) (hw:W i=true) (hp:y8_ C o=true) {K:Act->World->Prop} {Q:Exit->Act->World->Prop}
  (hK:∀p' mc' G' a' w',HInv C ops Z W B w0 m0 (listed.setIfInBounds i true) p' mc' G' w'->AInv C ops Z V a0 (listed.setIfInBounds i true) mc' a'->K a' w'):o.wp C.P a w K Q:=by
 have hi:=(Array.getElem?_eq_some_iff.1 ho).1;have hE:=hs.envR hh.size hh.closed hh.sub ha ho hu hl;have h2:dop C ((E i).only (yc_ o)) o G (fun v _=>some v)=some (V i):=ybh_ hs.hC hp hh.gz (V i) (hs.runs hh ho hu hl hw hp);obtain⟨v,hv1,hv2⟩:=y71_ hs.hC hp h2;have hv1':v=V i:=Option.some.inj hv1;have h3:dop C ((E i).only (yc_ o)) o G (fun v σ=>chk (v=V i/\σ=G) (some ()))=some ():=by
  rw[hv2 G (Ext.refl G),y29_ ⟨hv1',rfl⟩]
 refine y2q_ hs.hC hh.r.all_pure (fun _=>hp) ((hs.envR hh.size hh.closed hh.sub ha ho hu hl).mono y24_) h3 fun cv w' hpost=>?_;obtain⟨v',σ',m',k1,k2,k3,k4⟩:=hpost;obtain⟨⟨e1,e2⟩,_⟩:=y12_ k1;subst e1 e2;have hm:m'=mc:=by
  funext l
  rcases Nat.lt_or_ge l σ'.next with h|h
  ·exact k3.old l h
  ·cases h1:m' l with
   |some q=>have:=(k3.dom l q h1).1;omega
   |none=>
    cases h4:mc l with
    |some q=>have:=(hh.r.dom l q h4).1;omega
    |none=>rfl
 subst hm;have hblk:∀k,k<w.heap.size->w'.heap[k]?=w.heap[k]?:=k3.below.block;have hR:R B w0 m' σ' w':=⟨k3.obj,k3.dom,k3.excl,hh.r.own,hh.r.below.trans ⟨k3.below.os,k3.below.tape,k3.below.output,k3.below.size,fun k hk=>hblk k (hh.r.base k hk)⟩,
  fun k hk=>Nat.lt_of_lt_of_le (hh.r.base k hk) k3.below.size,hh.r.oldn,hh.r.old⟩
 have hno:¬No C ops W i:=fun⟨o',h1,h4,_⟩=>by rw[ho]at h1;cases h1;simp[noisy,hp]at h4
 have hal:¬Al C ops W i:=fun⟨o',h1,h4,_⟩=>by rw[ho]at h1;cases h1;rw[hp]at h4;cases h4
 refine hK p m' σ' _ w' (hs.same hh ho hl hno hal hR hblk) (hs.put hh.size ha ho (Sub.refl _) ?_);exact VR.cut _ _ (hs.cl i hi) k4
theorem Sit.allocStep(hs:Sit C ops E H Z W V B w0 m0 a0){listed:Array Bool}{p:Nat}{mc:Nat->Option Pl}{G:Heap}{w:World}{a:Act}(hh:HInv C ops Z W B w0 m0 listed p mc G w)(ha:AInv C ops Z V a0 listed mc a){i:Nat}{o:Oper}(ho:ops[i]?=some o)(hu:¬Ld listed i)
  (hl:∀e∈o.after,Region.binds .any e=true->Ld listed e.on) (hA:Al C ops W i) {K:Act->World->Prop} {Q:Exit->Act->World->Prop}
  (hK:∀p' mc' G' a' w',HInv C ops Z W B w0 m0 (listed.setIfInBounds i true) p' mc' G' w'->AInv C ops Z V a0 (listed.setIfInBounds i true) mc' a'->K a' w'):o.wp C.P a w K Q:=by
 have hi:=(Array.getElem?_eq_some_iff.1 ho).1;have his:i<listed.size:=by rw[hh.size];exact hi
 have up:∀{k},Ld listed k->Ld (listed.setIfInBounds i true) k:=fun h=>(y1b_ his).2 (.inl h);have down:∀{k},Ld (listed.setIfInBounds i true) k->k≠i->Ld listed k:=fun h hne=>((y1b_ his).1 h).resolve_right hne;have now:Ld (listed.setIfInBounds i true) i:=(y1b_ his).2 (.inr rfl);have hE:=hs.envR hh.size hh.closed hh.sub ha ho hu hl;obtain⟨ob,hrw,hZ1,hdop⟩:=hs.al ho hA;have hno:¬No C ops W i:=hA.no;have hip:p<=i:=by
  rcases hh.pos with h0|⟨j,hj,hNo⟩
  ·omega
  ·rcases Nat.lt_or_ge i p with h|h
   ·exfalso
    obtain⟨oj,hoj,hnj,hwj⟩:=id hNo;have hne:i≠j:=fun e=>hno (e▸hNo);have hlj:Ld listed j:=(hh.nois j hNo).2 (by omega);obtain⟨o',ho',hp,_⟩:=id hA;rw[ho]at ho';cases ho';exact hu (hs.reg.chain j oj hoj hnj i o (by omega) ho hp listed hh.closed (fun e he hb=>hh.closed j oj hoj hlj e he hb))
   ·exact h
 have hnone:mc (Z i).next=none:=by
  cases hm:mc (Z i).next with
  |none=>rfl
  | some q=>
   exfalso;rcases hh.dom _ _ hm with h|⟨k,h1,h2,h3,h4⟩
   ·have:=hs.mono hip (Nat.le_of_lt hi);omega
   ·have:=hs.al_inj hA h3 h4
    subst this;exact hu h2
 have hnN:(Z i).next<(Z ops.size).next:=hs.al_lt hA hi (Nat.le_refl _);have hRτ:=R.bare (m:=cut (Z i).next mc) (w:=w) (Z i).next (fun l q h=>⟨ydq_ h,(hh.r.dom l q (y24_ l q h)).2⟩);generalize hτ:(⟨(Z i).next,fun _=>none⟩:Heap)=τ at hRτ;have hτn:τ.next=(Z i).next:=by rw[<-hτ]
 have hd:dop C ((E i).only (yc_ o)) o τ (fun v σ=>chk (v=V i/\σ=τ.new ob) (some ()))=some ():=by rw[hdop τ hτn,y29_ ⟨rfl,rfl⟩]
 refine y2q_ hs.hC hRτ (fun(h:false=true)=>nomatch h) hE hd fun cv w' hpost=>?_;obtain⟨v',σ',m',k1,k2,k3,k4⟩:=hpost;obtain⟨⟨e1,e2⟩,_⟩:=y12_ k1;subst e1 e2;have hblk:∀k,k<w.heap.size->w'.heap[k]?=w.heap[k]?:=k3.below.block;have hget:(τ.new ob).get (Z i).next=some ob:=by simp[Heap.new,hτn]
 obtain⟨pl,hpl,hobj⟩:=k3.obj (Z i).next ob hget;have hnew:w.heap.size<=pl.blk:=by
  have h:¬pl.blk<w.heap.size:=k3.own rfl (Z i).next ob pl hget hrw hpl;omega
 have S:Sub mc (mset mc (Z i).next pl):=Sub.mset hnone pl;have hself:mset mc (Z i).next pl (Z i).next=some pl:=by simp[mset]
 have hoth:∀l,l≠(Z i).next->mset mc (Z i).next pl l=mc l:=fun l h=>by simp[mset,h]
 have S':Sub m' (cut (Z (i+1)).next (mset mc (Z i).next pl)):=fun l q h=>by
  have h1:l<(Z i).next+1:=by have:=(k3.dom l q h).1;simpa[Heap.new,hτn]using this
  rw[y1t_ (by rw[hs.al_next hA];exact h1)];by_cases e:l=(Z i).next
  ·subst e;rw[hpl]at h;cases h;exact hself
  ·have h2:l<(Z i).next:=by omega
   have h3:m' l=cut (Z i).next mc l:=k3.old l h2;rw[hoth l e,<-y1t_ (m:=mc) h2,<-h3];exact h
 have hsz:w.heap.size<=w'.heap.size:=k3.below.size;have hR:R B w0 (mset mc (Z i).next pl) (G.set (Z i).next ob) w':=by
  refine R.upd (b:=pl.blk) (l:=(Z i).next) (o:=ob) (p:=pl) hh.r ⟨k3.below.os,k3.below.tape,k3.below.output,hsz,fun k _ hk=>hblk k hk⟩ (fun hb=>by have:=hh.r.base _ hb;omega) S
   (fun k hk=>hoth k (by have:=hs.w0n;have:=hs.mono (Nat.zero_le i) (Nat.le_of_lt hi);omega)) hself rfl (k3.dom _ _ hpl).2 (fun k q hk=>?_) (Nat.le_refl _) (by simp only[Heap.set,hh.gn];exact hnN) (fun k x hk hx=>?_) (by simp[Heap.set]) (hobj.mono (S'.trans y24_) rfl)
  ·by_cases e:k=(Z i).next
   ·subst e;rw[hself]at hk;cases hk;exact .inr ⟨rfl,rfl⟩
   ·rw[hoth k e]at hk;exact .inl hk
  ·simp only[Heap.set,if_neg hk]at hx
   exact⟨hx,fun q hq=>by have:=(hh.r.dom k q hq).2;omega⟩
 have hGs:∀l,l≠(Z i).next->(G.set (Z i).next ob).get l=G.get l:=fun l h=>by simp[Heap.set,h]
 refine hK p _ _ _ w' ⟨by simp[hh.size],y59_ hh.size hh.closed ho hl,hh.pn,fun j hj=>?_,hh.pos,hh.sub.trans S,fun l q h=>?_,hR,hh.gn,fun l x h=>?_,hh.zlt,fun k h1 h2 h3=>?_,fun l x h=>?_,fun l x h=>?_,fun k x h1 h2 h3 h4=>?_⟩ (hs.put hh.size ha ho S (VR.mono S' _ _ k4))
 ·have hne:j≠i:=fun e=>hno (e▸hj)
  rw[<-hh.nois j hj];exact⟨fun h=>down h hne,up⟩
 ·by_cases e:l=(Z i).next
  ·exact .inr ⟨i,hip,now,hA,e⟩
  ·rw[hoth l e]at h
   exact(hh.dom l q h).imp id fun⟨k,h1,h2,h3⟩=>⟨k,h1,up h2,h3⟩
 ·have h1:=hh.gz l x h
  obtain⟨q,h2,_⟩:=hh.r.obj l x h1;rw[hGs l (fun e=>by rw[e,hnone]at h2;cases h2)];exact h1
 ·by_cases e:k=i
  ·subst e;rw[hZ1];simp[Heap.set,Heap.new]
  ·rw[hGs _ (fun h=>e (hs.al_inj h3 hA h))];exact hh.gp k h1 (down h2 e) h3
 ·by_cases e:l=(Z i).next
  ·exact .inr ⟨i,hip,now,hA,e⟩
  ·rw[hGs l e]at h
   exact(hh.gd l x h).imp id fun⟨k,h1,h2,h3⟩=>⟨k,h1,up h2,h3⟩
 ·obtain⟨q,h1,h2⟩:=hh.zobj l x h
  exact⟨q,S _ _ h1,h2.mono (y2n_ (Nat.le_refl _) S) (hblk _ (hh.r.dom l q h1).2)⟩
 ·by_cases e:k=i
  ·subst e
   rw[hZ1]at h4;have:x=ob:=by simpa[Heap.new]using h4.symm
   subst this;exact⟨pl,hself,hobj.mono S' rfl⟩
  ·obtain⟨q,h5,h6⟩:=hh.pobj k x h1 (down h2 e) h3 h4
   exact⟨q,S _ _ h5,h6.mono (y2n_ (Nat.le_refl _) S) (hblk _ (hh.r.dom _ q h5).2)⟩
end
end
section
open Go Go.RowKit
theorem y4u_{C:Cx}:∀(os:List Oper),yh_ C os=true->∀o∈os,y8_ C o=true
 |[],_,o,h=>by simp at h
 | x::os,hp,o,h=>by
  simp only[yh_]at hp;cases hx:y8_ C x with
  |false=>rw[hx]at hp;cases hp
  |true=>
   rw[hx]at hp;rcases List.mem_cons.1 h with e|e
   ·subst e;exact hx
   ·exact y4u_ os hp o e
section
variable{C:Cx}{ops:Array Oper}{E:Nat->Env}{H Z:Nat->Heap}{W:Nat->Bool}{V:Nat->AVal}{B:Nat->Prop}{w0:Base}{m0:Nat->Option Pl}{a0:Act}
theorem Sit.noisyStep(hs:Sit C ops E H Z W V B w0 m0 a0){listed:Array Bool}{p:Nat}{mc:Nat->Option Pl}{G:Heap}{w:World}{a:Act}(hh:HInv C ops Z W B w0 m0 listed p mc G w)(ha:AInv C ops Z V a0 listed mc a){j:Nat}{o:Oper}(ho:ops[j]?=some o)(hu:¬Ld listed j)
  (hl:∀e∈o.after,Region.binds .any e=true->Ld listed e.on) (hw:W j=true) (hn:noisy C o=true) {K:Act->World->Prop} {Q:Exit->Act->World->Prop}
  (hK:∀p' mc' G' a' w',HInv C ops Z W B w0 m0 (listed.setIfInBounds j true) p' mc' G' w'->AInv C ops Z V a0 (listed.setIfInBounds j true) mc' a'->K a' w'):o.wp C.P a w K Q:=by
 have hi:=(Array.getElem?_eq_some_iff.1 ho).1;have his:j<listed.size:=by rw[hh.size];exact hi
 have up:∀{k},Ld listed k->Ld (listed.setIfInBounds j true) k:=fun h=>(y1b_ his).2 (.inl h);have down:∀{k},Ld (listed.setIfInBounds j true) k->k≠j->Ld listed k:=fun h hne=>((y1b_ his).1 h).resolve_right hne;have now:Ld (listed.setIfInBounds j true) j:=(y1b_ his).2 (.inr rfl);have hE:=hs.envR hh.size hh.closed hh.sub ha ho hu hl;have hNo:No C ops W j:=⟨o,ho,hn,hw⟩;have hpm:w0.pm=false:=pmf hs.pm fun h=>by
  have:=y4u_ _ h o (by have:=Array.mem_of_getElem? ho;simpa using this);simp[noisy,this]at hn
 have hpj:p<=j:=by
  rcases Nat.lt_or_ge j p with h|h
  ·exact absurd ((hh.nois j hNo).2 h) hu
  ·exact h
 have hmid:∀k,p<=k->k<j->¬No C ops W k:=fun k h1 h2 h3=>by
  obtain⟨ok,hok,hnk,hwk⟩:=id h3;have hpk:y8_ C ok=false:=by
   cases h:y8_ C ok with
   |false=>rfl
   |true=>simp[noisy,h]at hnk
  have:=hs.reg.chain j o ho hn k ok h2 hok hpk listed hh.closed hl;have:=(hh.nois k h3).1 this;omega
 have hals:∀k,k<j->Al C ops W k->Ld listed k:=fun k h1 h2=>by
  obtain⟨ok,hok,hpk,_⟩:=h2;exact hs.reg.chain j o ho hn k ok h1 hok hpk listed hh.closed hl
 have hjn:j<=ops.size:=Nat.le_of_lt hi;have hpj':=hs.mono hpj hjn;have hj1:=hs.mono (i:=j) (j:=j+1) (by omega) (by omega);have hjN:=hs.mono (i:=j+1) (j:=ops.size) (by omega) (Nat.le_refl _);have hZG:∀l x,(Z j).get l=some x->G.get l=some x/\l<(Z j).next/\∃q,mc l=some q/\ObjR (cut (Z j).next mc) q x w:=fun l x h=>by
  rcases hs.between j hpj hjn hmid l x h with h|⟨k,h1,h2,h3,h4,h5⟩
  ·obtain⟨q,h6,h7⟩:=hh.zobj l x h
   exact⟨hh.gz l x h,by have:=hh.zlt l x h;omega,q,h6,h7.mono (y2n_ hpj' (Sub.refl _)) rfl⟩
  ·subst h4
   have hlk:=hals k h2 h3;obtain⟨q,h6,h7⟩:=hh.pobj k x h1 hlk h3 h5;exact⟨by rw[hh.gp k h1 hlk h3];exact h5,hs.al_lt h3 h2 hjn,q,h6,h7.mono (y2n_ (hs.mono (by omega) hjn) (Sub.refl _)) rfl⟩
 let Bj:Nat->Prop:=fun k=>k<w.heap.size/\∀l x q,(Z j).get l=some x->x.rw=true->mc l=some q->q.blk≠k
 have hRj:R Bj ⟨w,(Z j).next,cut (Z j).next mc,false⟩ (cut (Z j).next mc) (Z j) w:=by
  refine⟨fun l x h=>?_,fun l q h=>⟨ydq_ h,(hh.r.dom l q (y24_ l q h)).2⟩,fun l l' x x' q q' hne h h' hq hq' hex=>?_,fun _ l x q h hrw hq hb=>?_,Keeps.refl _ _,fun k hk=>hk.1,Nat.le_refl _,fun _ _=>rfl⟩
  ·obtain⟨_,h1,q,h2,h3⟩:=hZG l x h
   exact⟨q,by rw[y1t_ h1];exact h2,h3⟩
  ·exact hh.r.excl l l' x x' q q' hne (hZG l x h).1 (hZG l' x' h').1 (y24_ _ _ hq) (y24_ _ _ hq') hex
  ·exact hb.2 l x q h hrw (y24_ _ _ hq) rfl
 have hdop:=((hs.stp ho).noisy hw hn).1;have hd:dop C ((E j).only (yc_ o)) o (Z j) (fun v σ=>chk (v=V j/\σ=Z (j+1)) (some ()))=some ():=by rw[hdop Unit _,y29_ ⟨rfl,rfl⟩]
 refine y2q_ hs.hC hRj (fun(h:false=true)=>nomatch h) hE hd fun cv w' hpost=>?_;obtain⟨v',σ',m',k1,k2,k3,k4⟩:=hpost;obtain⟨⟨e1,e2⟩,_⟩:=y12_ k1;subst e1 e2;have hblk:∀k,Bj k->w'.heap[k]?=w.heap[k]?:=k3.below.block;have hsz:w.heap.size<=w'.heap.size:=k3.below.size;have hold:∀l,l<(Z j).next->m' l=mc l:=fun l h=>by rw[<-y1t_ (m:=mc) h];exact k3.old l h
 generalize hmc':(fun l=>if l<(Z (j+1)).next then m' l else mc l)=mc';have hlo:∀l,l<(Z (j+1)).next->mc' l=m' l:=fun l h=>by rw[<-hmc'];exact if_pos h
 have hhi:∀l,(Z (j+1)).next<=l->mc' l=mc l:=fun l h=>by rw[<-hmc'];exact if_neg (by omega)
 have hkeep:∀l q,mc l=some q->l<(Z j).next\/(Z (j+1)).next<=l:=fun l q h=>by
  rcases hh.dom l q h with h1|⟨k,h1,h2,h3,h4⟩
  ·exact .inl (by omega)
  ·rcases Nat.lt_trichotomy k j with h5|h5|h5
   ·exact .inl (by have:=hs.al_lt h3 h5 hjn;omega)
   ·subst h5;exact absurd hNo h3.no
   ·exact .inr (by have:=hs.mono (i:=j+1) (j:=k) (by omega) (Nat.le_of_lt h3.lt);omega)
 have S:Sub mc mc':=fun l q h=>by
  rcases hkeep l q h with h1|h1
  ·rw[hlo l (by omega),hold l h1];exact h
  ·rw[hhi l h1];exact h
 have S':Sub m' (cut (Z (j+1)).next mc'):=fun l q h=>by
  have h1:=(k3.dom l q h).1;rw[y1t_ h1,hlo l h1];exact h
 have hpk:∀l x,G.get l=some x->(Z (j+1)).next<=l->∃k,j+1<=k/\Ld listed k/\Al C ops W k/\l=(Z k).next/\(Z (k+1)).get (Z k).next=some x:=fun l x h h1=>by
  rcases hh.gd l x h with ⟨h2,_⟩|⟨k,h2,h3,h4,h5⟩
  ·omega
  ·refine⟨k,?_,h3,h4,h5,?_⟩
   ·rcases Nat.lt_trichotomy k j with h6|h6|h6
    ·have:=hs.al_lt h4 h6 hjn;omega
    ·subst h6;exact absurd hNo h4.no
    ·omega
   ·rw[<-hh.gp k h2 h3 h4,<-h5];exact h
 have hrwG:∀l x,G.get l=some x->(Z (j+1)).next<=l->x.rw=true:=fun l x h h1=>by
  obtain⟨k,_,_,h4,_,h6⟩:=hpk l x h h1;obtain⟨ok,hok,_⟩:=id h4;obtain⟨ob,hrw,hZk,_⟩:=hs.al hok h4;rw[hZk]at h6;have:x=ob:=by simpa[Heap.new]using h6.symm
  rw[this];exact hrw
 have ex_of:∀x:AObj,x.rw=true->x.ex=true:=fun x h=>by
  cases x with
  |cells md sz cs=>cases md<;>simp_all [AObj.rw,AObj.ex,Md.isRw,Md.ex]
  |map es=>rfl
 have hapart:∀l x q,G.get l=some x->(Z (j+1)).next<=l->mc l=some q->Bj q.blk:=fun l x q h h1 hq=>
  ⟨(hh.r.dom l q hq).2,fun l' x' q' h' hrw' hq'=>hh.r.excl l' l x' x q' q (fun e=>by have:=(hZG l' x' h').2.1;omega) (hZG l' x' h').1 h hq' hq (ex_of x' hrw')⟩
 generalize hG':(⟨G.next,fun l=>if l<(Z (j+1)).next then(Z (j+1)).get l else G.get l⟩:Heap)=G';have gn':G'.next=G.next:=by rw[<-hG']
 have glo:∀l,l<(Z (j+1)).next->G'.get l=(Z (j+1)).get l:=fun l h=>by rw[<-hG'];exact if_pos h
 have ghi:∀l,(Z (j+1)).next<=l->G'.get l=G.get l:=fun l h=>by rw[<-hG'];exact if_neg (by omega)
 have hfr:∀l x,(Z (j+1)).get l=some x->x.rw=false->(Z j).get l=some x:=(hs.stp ho).next.frame;have hR:R B w0 mc' G' w':=by
  refine⟨fun l x h=>?_,fun l q h=>?_,fun l l' x x' q q' hne h h' hq hq' hex=>?_,fun _ l x q h hrw hq=>?_,hh.r.below.trans ⟨k3.below.os,k3.below.tape,k3.below.output,hsz,fun k hk=>hblk k ⟨hh.r.base k hk,fun l x q h hrw hq e=>hh.r.own hpm l x q (hZG l x h).1 hrw hq (e▸hk)⟩⟩,fun k hk=>Nat.lt_of_lt_of_le (hh.r.base k hk) hsz,by rw[gn'];exact hh.r.oldn,fun l hl2=>?_⟩
  ·rcases Nat.lt_or_ge l (Z (j+1)).next with h1|h1
   ·rw[glo l h1]at h
    obtain⟨q,h2,h3⟩:=k3.obj l x h;exact⟨q,by rw[hlo l h1];exact h2,h3.mono (S'.trans y24_) rfl⟩
   ·rw[ghi l h1]at h
    obtain⟨q,h2,h3⟩:=hh.r.obj l x h;exact⟨q,S _ _ h2,h3.mono S (hblk _ (hapart l x q h h1 h2))⟩
  ·rcases Nat.lt_or_ge l (Z (j+1)).next with h1|h1
   ·rw[hlo l h1]at h
    exact⟨by rw[gn',hh.gn];omega,(k3.dom l q h).2⟩
   ·rw[hhi l h1]at h
    exact⟨by rw[gn'];exact(hh.r.dom l q h).1,Nat.lt_of_lt_of_le (hh.r.dom l q h).2 hsz⟩
  ·have mixed:∀l l' x x' q q',l<(Z (j+1)).next->(Z (j+1)).next<=l'->G'.get l=some x->G'.get l'=some x'->mc' l=some q->mc' l'=some q'->q.blk≠q'.blk:=fun l l' x x' q q' h1 h2 h h' hq hq'=>by
    rw[glo l h1]at h;rw[ghi l' h2]at h';rw[hlo l h1]at hq;rw[hhi l' h2]at hq';have hb:=hapart l' x' q' h' h2 hq';cases hrw:x.rw with
    |true=>exact fun e=>(k3.own rfl l x q h hrw hq) (e▸hb)
    |false=>
     have hzj:=hfr l x h hrw;obtain⟨g1,g2,q2,g3,_⟩:=hZG l x hzj;rw[hold l g2]at hq;exact(hh.r.excl l' l x' x q' q (by omega) h' g1 hq' hq (ex_of x' (hrwG l' x' h' h2))).symm
   rcases Nat.lt_or_ge l (Z (j+1)).next with h1|h1<;>rcases Nat.lt_or_ge l' (Z (j+1)).next with h2|h2
   ·rw[glo l h1]at h;rw[glo l' h2]at h';rw[hlo l h1]at hq;rw[hlo l' h2]at hq'
    exact k3.excl l l' x x' q q' hne h h' hq hq' hex
   ·exact mixed l l' x x' q q' h1 h2 h h' hq hq'
   ·exact(mixed l' l x' x q' q h2 h1 h' h hq' hq).symm
   ·rw[ghi l h1]at h;rw[ghi l' h2]at h';rw[hhi l h1]at hq;rw[hhi l' h2]at hq'
    exact hh.r.excl l l' x x' q q' hne h h' hq hq' hex
  ·rcases Nat.lt_or_ge l (Z (j+1)).next with h1|h1
   ·rw[glo l h1]at h;rw[hlo l h1]at hq
    exact fun hb=>k3.own rfl l x q h hrw hq ⟨hh.r.base _ hb,fun l2 x2 q2 g1 g2 g3 e=>hh.r.own hpm l2 x2 q2 (hZG l2 x2 g1).1 g2 g3 (e▸hb)⟩
   ·rw[ghi l h1]at h;rw[hhi l h1]at hq
    exact hh.r.own hpm l x q h hrw hq
  ·have h1:l<(Z j).next:=by have:=hs.w0n;have:=hs.mono (Nat.zero_le j) hjn;omega
   rw[hlo l (by omega),hold l h1];exact hh.r.old l hl2
 refine hK (j+1) mc' G' _ w' ⟨by simp[hh.size],y59_ hh.size hh.closed ho hl,by omega,fun k hk=>?_,.inr ⟨j,rfl,hNo⟩,hh.sub.trans S,fun l q h=>?_,hR,by rw[gn',hh.gn],fun l x h=>?_,fun l x h=>k3.loc_lt h,fun k h1 h2 h3=>?_,fun l x h=>?_,fun l x h=>?_,fun k x h1 h2 h3 h4=>?_⟩ (hs.put hh.size ha ho S (VR.mono S' _ _ k4))
 ·constructor
  ·intro h
   by_cases e:k=j
   ·omega
   ·have:=(hh.nois k hk).1 (down h e);omega
  ·intro h
   by_cases e:k=j
   ·subst e;exact now
   ·exact up ((hh.nois k hk).2 (by
     rcases Nat.lt_or_ge k p with h1|h1
     ·exact h1
     ·exact absurd hk (hmid k h1 (by omega))))
 ·rcases Nat.lt_or_ge l (Z (j+1)).next with h1|h1
  ·exact .inl h1
  ·rw[hhi l h1]at h
   rcases hh.dom l q h with h2|⟨k,h2,h3,h4,h5⟩
   ·omega
   ·refine .inr ⟨k,?_,up h3,h4,h5⟩
    rcases Nat.lt_trichotomy k j with h6|h6|h6
    ·have:=hs.al_lt h4 h6 hjn;omega
    ·subst h6;exact absurd hNo h4.no
    ·omega
 ·rw[glo l (k3.loc_lt h)];exact h
 ·have hk1:=hs.mono (i:=j+1) (j:=k) h1 (Nat.le_of_lt h3.lt)
  rw[ghi _ hk1];exact hh.gp k (by omega) (down h2 (by omega)) h3
 ·rcases Nat.lt_or_ge l (Z (j+1)).next with h1|h1
  ·rw[glo l h1]at h;exact .inl ⟨h1,h⟩
  ·rw[ghi l h1]at h
   obtain⟨k,g1,g2,g3,g4,_⟩:=hpk l x h h1;exact .inr ⟨k,g1,up g2,g3,g4⟩
 ·obtain⟨q,h2,h3⟩:=k3.obj l x h
  exact⟨q,by rw[hlo l (k3.loc_lt h)];exact h2,h3.mono S' rfl⟩
 ·have hk1:=hs.mono (i:=j+1) (j:=k) h1 (Nat.le_of_lt h3.lt)
  have hlk:=down h2 (by omega);obtain⟨q,h5,h6⟩:=hh.pobj k x (by omega) hlk h3 h4;have hg:G.get (Z k).next=some x:=by rw[hh.gp k (by omega) hlk h3];exact h4
  exact⟨q,S _ _ h5,h6.mono (y2n_ (Nat.le_refl _) S) (hblk _ (hapart _ x q hg hk1 h5))⟩
end
end
section
open Go Go.RowKit
def cnt(listed:Array Bool):Nat->Nat
 |0=>0
 |n+1=>cnt listed n+(if listed.getD n false=true then 0 else 1)
theorem ycb_{l l':Array Bool}:∀(n:Nat),(∀j,j<n->l.getD j false=l'.getD j false)->cnt l n=cnt l' n
 |0,_=>rfl
 |n+1,h=>by simp only[cnt];rw[ycb_ n fun j hj=>h j (by omega),h n (by omega)]
theorem yda_{listed:Array Bool}{i:Nat}(his:i<listed.size)(hu:¬Ld listed i):∀(n:Nat),i<n->cnt (listed.setIfInBounds i true) n+1=cnt listed n
 |0,h=>by omega
 | n+1,h=>by
  simp only[cnt];by_cases e:i=n
  ·subst e
   rw[ycb_ (l':=listed) i fun j hj=>getD_set_ne false (by omega)];have h1:(listed.setIfInBounds i true).getD i false=true:=(y1b_ his).2 (.inr rfl);have h2:listed.getD i false=false:=by
    cases hx:listed.getD i false with
    |false=>rfl
    |true=>exact absurd hx hu
   rw[h1,h2];simp
  ·rw[getD_set_ne false e]
   have:=yda_ his hu n (by omega);omega
theorem yc6_{listed:Array Bool}:∀(n:Nat),cnt listed n=0->∀j,j<n->Ld listed j
 |0,_,j,hj=>by omega
 | n+1,h,j,hj=>by
  simp only[cnt]at h;by_cases e:j=n
  ·subst e
   cases hx:listed.getD j false with
   |true=>exact hx
   |false=>rw[hx]at h;simp at h
  ·exact yc6_ n (by omega) j (by omega)
theorem y7o_{listed:Array Bool}{i:Nat}(h:listed.getD i true=false):¬Ld listed i:=fun h2=>by
 unfold Ld at h2;simp only[Array.getD_eq_getD_getElem?]at h h2;cases hx:listed[i]? with
 |none=>rw[hx]at h;simp at h
 |some b=>rw[hx]at h h2;simp at h h2;rw[h]at h2;cases h2
section
variable{C:Cx}{ops:Array Oper}{E:Nat->Env}{H Z:Nat->Heap}{W:Nat->Bool}{V:Nat->AVal}{B:Nat->Prop}{w0:Base}{m0:Nat->Option Pl}{a0:Act}
theorem Sit.step(hs:Sit C ops E H Z W V B w0 m0 a0){listed:Array Bool}{p:Nat}{mc:Nat->Option Pl}{G:Heap}{w:World}{a:Act}(hh:HInv C ops Z W B w0 m0 listed p mc G w)(ha:AInv C ops Z V a0 listed mc a){i:Nat}(hi:i∈Region.ready .any ops listed)
  {K:Act->World->Prop} {Q:Exit->Act->World->Prop}
  (hK:∀p' mc' G' a' w',HInv C ops Z W B w0 m0 (listed.setIfInBounds i true) p' mc' G' w'->AInv C ops Z V a0 (listed.setIfInBounds i true) mc' a'->K a' w'):wpOp C.P ops Q i K a w:=by
 obtain⟨hun,o,ho,hl⟩:=mem_ready.1 hi;have hu:=y7o_ hun;unfold wpOp;simp only[ho];rw[hs.wanted hh.size hh.closed hh.sub ha ho hu hl];cases hw:W i with
 |false=>
  rw[if_neg (by decide)];obtain⟨hV,_,_⟩:=(hs.stp ho).off hw;refine hK p mc G _ w (hs.same hh ho hl (fun⟨_,_,_,h⟩=>by rw[hw]at h;cases h) (fun⟨_,_,_,_,h⟩=>by rw[hw]at h;cases h) hh.r fun _ _=>rfl) (hs.put hh.size ha ho (Sub.refl mc) ?_);rw[hV];simp only[VR];exact⟨[],rfl,by simp[VRs]⟩
 | true=>
  rw[if_pos rfl];refine .inl ?_;cases hp:y8_ C o with
  |true=>exact hs.pureStep hh ha ho hu hl hw hp hK
  |false=>
   cases hal:yz_ o with
   |true=>exact hs.allocStep hh ha ho hu hl ⟨o,ho,hp,hal,hw⟩ hK
   |false=>exact hs.noisyStep hh ha ho hu hl hw (by simp[noisy,hp,hal]) hK
theorem Sit.done(hs:Sit C ops E H Z W V B w0 m0 a0){listed:Array Bool}{p:Nat}{mc:Nat->Option Pl}{G:Heap}{w:World}{a:Act}(hh:HInv C ops Z W B w0 m0 listed p mc G w)(ha:AInv C ops Z V a0 listed mc a)(hall:∀j,j<ops.size->Ld listed j) :
  After C B w0 m0 a0 (dsts ops.toList []) (E ops.size) (Z ops.size) mc a w:=by
 have hno:∀k,p<=k->k<ops.size->¬No C ops W k:=fun k h1 h2 h3=>by
  have:=(hh.nois k h3).1 (hall k h2);omega
 have hZG:∀l x,(Z ops.size).get l=some x->G.get l=some x:=fun l x h=>by
  rcases hs.between ops.size hh.pn (Nat.le_refl _) hno l x h with h|⟨k,h1,h2,h3,h4,h5⟩
  ·exact hh.gz l x h
  ·subst h4;rw[hh.gp k h1 (hall k h2) h3];exact h5
 refine⟨hh.sub,⟨fun l x h=>hh.r.obj l x (hZG l x h),fun l q h=>?_,fun l l' x x' q q' hne h h'=>hh.r.excl l l' x x' q q' hne (hZG l x h) (hZG l' x' h'),fun hpm l x q h=>hh.r.own hpm l x q (hZG l x h),hh.r.below,hh.r.base,?_,hh.r.old⟩,⟨fun t u h=>?_,fun g hg=>?_,ha.asz⟩,ha.defers,fun t ht=>ha.old t fun i o hi _ hd=>ht ((y5n_ _ _ _).2 (.inl ⟨o,by have:=Array.mem_of_getElem? hi;simpa using this,hd⟩))⟩
 ·have:=hh.r.dom l q h;rw[hh.gn]at this;exact this
 ·exact Nat.le_trans hs.w0n (hs.mono (Nat.zero_le _) (Nat.le_refl _))
 ·rcases hs.envGet ops.size (Nat.le_refl _) t u h with ⟨j,oj,h1,h2,h3,h4⟩|⟨h1,h2⟩
  ·subst h4
   exact VR.mono y24_ _ _ (ha.vals j oj t h2 (hall j h1) h3)
  ·rw[ha.old t fun i o hi _=>h1 i o (Array.getElem?_eq_some_iff.1 hi).1 hi]
   exact VR.mono hh.sub _ _ (hs.env0 t u h2)
 ·obtain⟨q,h1,h2⟩:=hs.glob g hg
  exact⟨q,hh.sub _ _ h1,h2⟩
theorem Sit.all(hs:Sit C ops E H Z W V B w0 m0 a0){Q:Exit->Act->World->Prop}(hQ:∀mc a w,After C B w0 m0 a0 (dsts ops.toList []) (E ops.size) (Z ops.size) mc a w->Q .normal a w) :
  ∀(fuel:Nat) (listed:Array Bool) (p:Nat) (mc:Nat->Option Pl) (G:Heap) (a:Act) (w:World),cnt listed ops.size<=fuel->HInv C ops Z W B w0 m0 listed p mc G w->AInv C ops Z V a0 listed mc a->wpAny C.P .any ops Q fuel listed a w:=by
 intro fuel
 induction fuel with
 | zero=>
  intro listed p mc G a w hc hh ha;have hall:=yc6_ (listed:=listed) ops.size (by omega);refine⟨?_,hQ mc a w (hs.done hh ha hall)⟩;cases hr:Region.ready .any ops listed with
  |nil=>rfl
  |cons x xs=>
   have hx:x∈Region.ready .any ops listed:=by rw[hr];exact List.mem_cons_self
   obtain⟨hun,o,ho,_⟩:=mem_ready.1 hx;exact absurd (hall x (Array.getElem?_eq_some_iff.1 ho).1) (y7o_ hun)
 | succ fuel ih=>
  intro listed p mc G a w hc hh ha;refine⟨fun hr=>hQ mc a w (hs.done hh ha ?_),fun i hi=>?_⟩
  ·intro j
   induction j using Nat.strongRecOn with
   | ind j ihj=>
    intro hj;cases hx:listed.getD j false with
    |true=>exact hx
    | false=>
     exfalso;obtain⟨o,ho⟩:=Sit.op (ops:=ops) j hj;have:j∈Region.ready .any ops listed:=mem_ready.2 ⟨by
      have hlt:j<listed.size:=by rw[hh.size];exact hj
      simp only[Array.getD_eq_getD_getElem?]at hx⊢;rw[Array.getElem?_eq_getElem hlt]at hx⊢;simpa using hx,o,ho,fun e he hb=>ihj e.on (hs.reg.back j o ho e he hb) (by have:=hs.reg.back j o ho e he hb;omega)⟩
     rw[hr]at this;simp at this
  ·obtain⟨hun,o,ho,_⟩:=mem_ready.1 hi
   have hi':=(Array.getElem?_eq_some_iff.1 ho).1;have:=yda_ (by rw[hh.size];exact hi') (y7o_ hun) ops.size hi';exact hs.step hh ha hi fun p' mc' G' a' w' hh' ha'=>ih _ p' mc' G' a' w' (by omega) hh' ha'
end
theorem wp_ex{P:Program}{o:Oper}{a:Act}{w:World}{φ:Act->World->Prop}(h:o.wp P a w φ fun _ _ _=>False):∃a' w',φ a' w':=by
 unfold Oper.wp at h;generalize (execOp a.eval o).run P w=r at h;cases r with
 | ok n w'=>
  cases n with
  |value v=>exact⟨_,_,h⟩
  |skip=>exact⟨_,_,h⟩
  |defer d=>exact⟨_,_,h⟩
  |enter f args=>
   obtain⟨e,w'',fr,h1,_⟩:=h [];cases e with
   |returned v=>exact⟨_,_,h1⟩
   |panicked c=>exact h1.elim
   |outgrown=>obtain⟨_,_,h2⟩:=h1;exact h2.elim
  |row row args=>
   obtain⟨v,w'',h1,_⟩:=h (Frame.ofRow P row args .normal) [];exact⟨_,_,h1⟩
  |_=>exact h.elim
 |halt x w'=>
  cases x<;>exact h.elim
theorem yjo_{C:Cx}(hC:∀f s,C.calls f=some s->SpecOk C.P C.NG f s){ops:Array Oper}{ms:List Nat}{E:Nat->Env}{H Z:Nat->Heap}{W:Nat->Bool}{V:Nat->AVal}(hr:RunOk C ops.toList ms ops.toList 0 [] [] E H Z W V)(h0:H 0=Z 0)
  {B:Nat->Prop} {w0:Base} {m:Nat->Option Pl} {w:World} {a:Act} (hR:R B w0 m (Z 0) w) (hE:EnvR C m (E 0) a) (hpm:w0.pm=true->yh_ C ops.toList=true) :
  ∀(i:Nat),i<=ops.size->(∃m' w' a',R B w0 m' (Z i) w'/\EnvR C m' (E i) a'/\Ext (H i) (Z i))/\∀k,k<i->Lt (Z (k+1)).next (V k):=by
 intro i
 induction i with
 |zero=>intro _;exact⟨⟨m,w,a,hR,hE,by rw[h0];exact Ext.refl _⟩,fun k hk=>by omega⟩
 | succ i ih=>
  intro hi;obtain⟨⟨m',w',a',g1,g2,g3⟩,g4⟩:=ih (by omega);obtain⟨o,ho⟩:=Sit.op (ops:=ops) i (by omega);have hst:=hr.step i o (by simpa using ho);have hpo:w0.pm=true->y8_ C o=true:=fun h=>y4u_ _ (hpm h) o (by have:=Array.mem_of_getElem? ho;simpa using this);have hEo:EnvR C m' ((E i).only (yc_ o)) a':=⟨fun t u h=>g2.tmp t u (Env.get_only _ _ _ _ h).2,g2.glob,g2.size⟩;have fin:∀(m2:Nat->Option Pl) (w2:World) (cv:Value),Sub m' m2->R B w0 m2 (Z (i+1)) w2->VR m2 (V i) cv->Ext (H (i+1)) (Z (i+1)) ->
    (∃m' w' a',R B w0 m' (Z (i+1)) w'/\EnvR C m' (E (i+1)) a'/\Ext (H (i+1)) (Z (i+1)))/\∀k,k<i+1->Lt (Z (k+1)).next (V k):=fun m2 w2 cv S hR2 hv hx=>by
   have hput:=(g2.mono S).put (d:=o.dst) hv hst.dst;refine⟨⟨m2,w2,a'.put o.dst cv,hR2,⟨fun t u h=>hput.tmp t u ?_,hput.glob,hput.size⟩,hx⟩,fun k hk=>?_⟩
   ·rw[Env.get_put,<-hst.env t];exact h
   ·by_cases e:k=i
    ·subst e;exact VR.lt (fun l p h=>(hR2.dom l p h).1) _ _ hv
    ·exact g4 k (by omega)
  have go:∀σ1:Heap,dop C ((E i).only (yc_ o)) o (Z i) (fun v σ=>chk (v=V i/\σ=σ1) (some ()))=some ()->σ1=Z (i+1)->Ext (H (i+1)) (Z (i+1)) ->
    (∃m' w' a',R B w0 m' (Z (i+1)) w'/\EnvR C m' (E (i+1)) a'/\Ext (H (i+1)) (Z (i+1)))/\∀k,k<i+1->Lt (Z (k+1)).next (V k):=fun σ1 hd hσ hx=>by
   have hwp:o.wp C.P a' w' (fun _ _=>∃cv w2,y3n_ B w0 m' (fun v σ=>chk (v=V i/\σ=σ1) (some ())) () cv w2) fun _ _ _=>False:=
    y2q_ hC g1 hpo hEo hd fun cv w2 h=>⟨cv,w2,h⟩
   obtain⟨_,_,cv,w2,v',σ',m2,k1,k2,k3,k4⟩:=wp_ex hwp;obtain⟨⟨e1,e2⟩,_⟩:=y12_ k1;subst e1 e2;rw[hσ]at k3;exact fin m2 w2 cv k2 k3 k4 hx
  cases hw:W i with
  |false=>
   obtain⟨e1,e2,e3⟩:=hst.off hw;refine fin m' w' (.tuple #[]) (Sub.refl m') (by rw[e2];exact g1) (by rw[e1];simp only[VR];exact⟨[],rfl,by simp[VRs]⟩) (by rw[e2,e3];exact g3)
  | true=>
   cases hp:y8_ C o with
   |true=>
    obtain⟨⟨σ',hrun⟩,e2,e3⟩:=hst.pure hw hp;have h1:dop C ((E i).only (yc_ o)) o (H i) (fun v _=>some v)=some (V i):=hrun _ _;obtain⟨v,hv1,hv2⟩:=y71_ hC hp h1;refine go (Z i) ?_ e2.symm (by rw[e2,e3];exact g3);rw[hv2 (Z i) g3,y29_ ⟨Option.some.inj hv1,rfl⟩]
   | false=>
    cases hal:yz_ o with
    |true=>
     obtain⟨hd,e3⟩:=hst.alloc hw hp hal;refine go (Z (i+1)) (by rw[hd Unit _,y29_ ⟨rfl,rfl⟩]) rfl ?_;obtain⟨ob,v,_,h6,_⟩:=ybp_ hal (hd (AVal×Heap) (fun v σ=>some (v,σ)));obtain⟨_,e2⟩:=Prod.mk.inj (Option.some.inj h6);rw[e3,<-e2];intro l x h;have h2:=g3 l x h;have:=g1.loc_lt h2;simp only[Heap.new];rw[if_neg (by omega)];exact h2
    |false=>
     obtain⟨hd,e3⟩:=hst.noisy hw (by simp[noisy,hp,hal]);exact go (Z (i+1)) (by rw[hd Unit _,y29_ ⟨rfl,rfl⟩]) rfl (by rw[e3];exact Ext.refl _)
theorem y5u_{C:Cx}(hC:∀f s,C.calls f=some s->SpecOk C.P C.NG f s)(hm:C.P.follows .mixedOrders=true):y4a_ C:=by
 intro id ops draw e σ Rt K r h B w0 m w a hR hpm hE;unfold regK at h;cases draw with
 |false=>
  simp only[cond_false]at h;refine wp_region ?_;rw[List.range_eq_range',<-Array.length_toList];refine y9e_ hC (fun e' σ' m' a' w' hk hA=>⟨.normal,e',σ',m',trivial,hk,hA⟩) ops.toList 0 e σ m a w hpm (fun j=>by simp) h ⟨Sub.refl m,hR,hE,rfl,fun _ _=>rfl⟩
 | true=>
  simp only[cond_true]at h;cases hd:y51_ C ops with
  |false=>rw[hd]at h;cases h
  | true=>
   rw[hd]at h;simp only[cond_true]at h;obtain⟨E,H,Z,W,V,h1,h2,h3,h4,h5⟩:=y1v_ (hN_of hC) _ _ _ _ _ _ _ h;have hE0:EnvR C m (E 0) a:=⟨fun t u ht=>hE.tmp t u (by rw[<-h2];exact ht),hE.glob,hE.size⟩;have hR0:R B w0 m (Z 0) { w with drawn:=w.drawn+1 }:=by rw[h4];exact hR.drawn _
   have hs:Sit C ops E H Z W V B w0 m a:=⟨ycw_ hd,h5,h3.trans h4.symm,hE0.tmp,hE.glob,fun l p hl=>(hR0.dom l p hl).1,hR0.oldn,hC,hpm,fun i hi=>(yjo_ hC h5 (h3.trans h4.symm) hR0 hE0 hpm ops.size (Nat.le_refl _)).2 i hi⟩;have hnl:∀j,¬Ld (Array.replicate ops.size false) j:=fun j hj=>by
    unfold Ld at hj;simp only[Array.getD_eq_getD_getElem?,Array.getElem?_replicate]at hj
    split at hj<;>simp at hj
   have h0N:=hs.mono (Nat.zero_le ops.size) (Nat.le_refl _);rw[Array.length_toList]at h1;refine wp_region_any hm (hs.all (fun mc a' w' hA=>⟨.normal,_,_,mc,trivial,h1,hA⟩) ops.size _ 0 m ⟨(Z ops.size).next,(Z 0).get⟩ a _ ?_ ?_ ?_)
   ·have:∀n,cnt (Array.replicate ops.size false) n<=n:=fun n=>by
     induction n with
     |zero=>exact Nat.le_refl _
     |succ n ih=>simp only[cnt];split<;>omega
    exact this _
   ·refine⟨by simp,fun j o _ hj=>absurd hj (hnl j),Nat.zero_le _,fun j _=>⟨fun hj=>absurd hj (hnl j),fun hj=>by omega⟩,.inl rfl,Sub.refl m,fun l p hl=>.inl (hR0.dom l p hl).1,
     ⟨hR0.obj,fun l p hl=>⟨Nat.lt_of_lt_of_le (hR0.dom l p hl).1 h0N,(hR0.dom l p hl).2⟩,hR0.excl,hR0.own,hR0.below,hR0.base,Nat.le_trans hR0.oldn h0N,hR0.old⟩,rfl,fun l x hx=>hx,fun l x hx=>hR0.loc_lt hx,fun k _ hk=>absurd hk (hnl k),fun l x hx=>.inl ⟨hR0.loc_lt hx,hx⟩,fun l x hx=>?_,fun k x _ hk=>absurd hk (hnl k)⟩
    obtain⟨p,g1,g2⟩:=hR0.obj l x hx;exact⟨p,g1,g2.mono (fun l' q hl=>by rw[y1t_ (hR0.dom l' q hl).1];exact hl) rfl⟩
   ·exact⟨fun i o t _ hj=>absurd hj (hnl i),fun t _=>rfl,hE.size,rfl⟩
end
section
open Go Go.RowKit
theorem y7x_:∀(args:List AVal) (i t:Nat) (v:AVal),(env0 i args).get t=some v->i<=t/\args[t-i]?=some v
 |[],i,t,v,h=>by simp[env0,Env.get]at h
 | a::as0,i,t,v,h=>by
  simp only[env0,Env.get]at h;cases hb:Nat.beq i t with
  |true=>
   rw[hb]at h;have:=Nat.eq_of_beq_eq_true hb;subst this;simp at h;exact⟨Nat.le_refl _,by simpa using h⟩
  |false=>
   rw[hb]at h;have hne:i≠t:=fun e=>by subst e;simp at hb
   obtain⟨h1,h2⟩:=y7x_ as0 (i+1) t v (by simpa using h);refine⟨by omega,?_⟩;rw[show t-i=(t-(i+1))+1 by omega];simpa using h2
theorem yj_{Rt:Type}{r:Rt}:∀(vs:List AVal) (ks:List Kd) (K:Tu ks->Option Rt),packs vs ks K=some r->∃x,K x=some r/\Tu.vals ks x=vs
 |[],[],K,h=>⟨(),h,rfl⟩
 |[v],[k],K,h=>by
  obtain⟨x,h1,h2⟩:=yg_ h;exact⟨x,h2,by simp only[Tu.vals,h1]⟩
 |v::v'::vs,k::k'::ks,K,h=>by
  simp only[packs]at h;obtain⟨x,h1,h2⟩:=yg_ h;obtain⟨y,h3,h4⟩:=yj_ (v'::vs) (k'::ks) _ h2;exact⟨(x,y),h3,by simp only[Tu.vals,h1,h4]⟩
 |[],k::ks,K,h=>by simp[packs]at h
 |v::vs,[],K,h=>by cases vs<;>simp[packs]at h
 |[v],k::k'::ks,K,h=>by simp[packs]at h
 |v::v'::vs,[k],K,h=>by simp[packs]at h
theorem yii_{m:Nat->Option Pl}(ks:List Kd)(x:Tu ks){cvs:List Value}(h:VRs m (Tu.vals ks x) cvs):VR m (retV ks x) (if h:cvs.toArray.size=1 then cvs.toArray[0]else .tuple cvs.toArray):=by
 have hl:=h.length
 match ks,x,h,hl with
 |[],x,h,hl=>simp only[Tu.vals,List.length_nil]at hl;rw[dif_neg (by simp[hl])];simp only[retV,VR];exact⟨cvs,rfl,h⟩
 |[k],x,h,hl=>
  simp only[Tu.vals,List.length_cons,List.length_nil]at hl;rw[dif_pos (by simpa using hl)];simp only[Tu.vals,VRs]at h;obtain⟨v,vs',rfl,h1,rfl⟩:=h;simp only[retV];exact h1
 | k::k'::ks,x,h,hl=>
  have h2:∀(ks:List Kd) (x:Tu ks),(Tu.vals ks x).length=ks.length:=fun ks=>by
   induction ks with
   |nil=>intro x;rfl
   |cons k ks ih=>
    intro x;cases ks with
    |nil=>rfl
    |cons k' ks=>simp only[Tu.vals,List.length_cons];rw[ih x.2];rfl
  rw[h2]at hl;rw[dif_neg (by simp at hl⊢;omega)];simp only[retV,VR];exact⟨cvs,rfl,h⟩
def rvSem(a:Act):ResultVar->Sem Value
 | .tmp t=>pure (a.tmps.getD t undef)
 | .cell x t=>do loadVar t (<-asAddr (a.tmps.getD x undef))
theorem y6s_{Rt:Type}{C:Cx}{B:Nat->Prop}{w0:Base}{m:Nat->Option Pl}{e:Env}{σ:Heap}{w:World}{a:Act}{r:Rt}(hR:R B w0 m σ w)(hE:EnvR C m e a):∀(rs:List ResultVar) (K:List AVal->Option Rt),resK C e σ rs K=some r ->
  ∃vs cvs,(rs.mapM (rvSem a):Sem (List Value)).run C.P w=.ok cvs w/\K vs=some r/\VRs m vs cvs
 |[],K,h=>⟨[],[],by simp,h,by simp[VRs]⟩
 | .tmp t::rs,K,h=>by
  simp only[resK]at h
  split at h
  ·rename_i v hv
   obtain⟨vs,cvs,h1,h2,h3⟩:=y6s_ hR hE rs _ h;refine⟨v::vs,a.tmps.getD t undef::cvs,?_,h2,⟨_,_,rfl,hE.tmp t v hv,h3⟩⟩;simp only[List.mapM_cons,rvSem,Sem.run_bind,Sem.run_pure,Result.andThen_ok,h1]
  ·cases h
 | .cell x t::rs,K,h=>by
  simp only[resK]at h;obtain⟨ti,i,d,z,ht,h⟩:=Cx.ti_spec h
  split at h
  ·rename_i p hp
   have hv:=hE.tmp x p hp;have hw:(∃l,p=.ptr l 0\/∃o,p=.ptr l o):=by
    unfold loadK at h;cases hb:isAg ti.tk with
    |true=>rw[hb]at h;simp only[cond_true,ldG]at h;split at h<;>first|exact⟨_,.inr ⟨_,rfl⟩⟩|cases h
    |false=>rw[hb]at h;simp only[cond_false,ld]at h;split at h<;>first|exact⟨_,.inr ⟨_,rfl⟩⟩|cases h
   obtain⟨l,hl⟩:=hw;have hex:∃o,p=.ptr l o:=by rcases hl with h|h;exact⟨0,h⟩;exact h
   obtain⟨o,rfl⟩:=hex;simp only[VR]at hv;obtain⟨pl,hpl,hv⟩:=hv;obtain⟨u',cv',h1',h2',h3'⟩:=ya9_ (K:=fun v=>resK C e σ rs fun vs=>K (v::vs)) ht hR (by simp only[VR];exact⟨pl,hpl,hv⟩) h;obtain⟨vs,cvs,k1,k2,k3⟩:=y6s_ hR hE rs _ h2';refine⟨u'::vs,cv'::cvs,?_,k2,⟨_,_,rfl,h3',k3⟩⟩;have hl2:(loadVar t ⟨pl.blk,pl.start+o,none⟩).run C.P w=.ok cv' w:=by
    simpa[Instr.loadAt,Instr.sureAddr,hv]using h1'
   have ha:(asAddr (a.tmps.getD x undef)).run C.P w=.ok ⟨pl.blk,pl.start+o,none⟩ w:=by rw[hv];rfl
   have hx:(rvSem a (.cell x t)).run C.P w=.ok cv' w:=by simp only[rvSem,Sem.run_bind,ha,Result.andThen_ok,hl2]
   simp only[List.mapM_cons,Sem.run_bind,hx,Sem.run_pure,Result.andThen_ok,k1]
  ·cases h
theorem y8n_{P:Program}{NG:Nat}{calls:FuncId->Option Spec}{pv:Nat->Bool}{f:FuncId}{fn:Func}{an:Ann}{n:Nat}(hS:y4a_ ⟨P,NG,n,calls,pv⟩)(hP:y3b_ ⟨P,NG,n,calls,pv⟩)(hf:P.funcs[f]?=some fn)(hb:fn.body=some (fn.body.getD .skip))(hn:fn.ntmps=n)
  {args:List AVal} (hlen:args.length<=n) {σ:Heap} {Rt:Type} {K:Ex->Env->Heap->Option Rt} {r:Rt} {B:Nat->Prop} {w0:Base} {m:Nat->Option Pl} {w:World} {cargs:List Value} {Rr:Ending->World->Prop}
  (hden:den ⟨P,NG,n,calls,pv⟩ (fn.body.getD .skip) an (env0 0 args) σ K=some r) (hR:R B w0 m σ w) (hpm:w0.pm=true->pureC ⟨P,NG,n,calls,pv⟩ (fn.body.getD .skip)=true) (hG:GlobR NG m) (hargs:VRs m args cargs)
  (fin:∀ex e' σ1 m' a' w',(ex=.normal\/ex=.ret)->K ex e' σ1=some r->Sub m m'->R B w0 m' σ1 w'->EnvR ⟨P,NG,n,calls,pv⟩ m' e' a'->∃v,(results fn a'.tmps).run P w'=.ok v w'/\Rr (.returned v) w')
  (hx:∀i e' σ1,K (.exit i) e' σ1=none):Calls P f cargs.toArray w Rr:=by
 have hl:=hargs.length
 let C:Cx:=⟨P,NG,n,calls,pv⟩
 let a0:Act:={ tmps:=cargs.toArray++Array.replicate (fn.ntmps-cargs.toArray.size) undef,defers:=[] }
 have hE:EnvR C m (env0 0 args) a0:=by
  refine⟨fun t v ht=>?_,hG,by simp[a0,C,hn];omega⟩;obtain⟨_,h2⟩:=y7x_ args 0 t v ht;obtain⟨u,h3,h4⟩:=hargs.get t v (by simpa using h2);have hlt:=(List.getElem?_eq_some_iff.1 h3).1;have:a0.tmps.getD t undef=u:=by
   simp only[a0,Array.getD_eq_getD_getElem?];rw[Array.getElem?_append_left (by simpa using hlt)];simp[h3]
  rw[this];exact h4
 refine calls_of_wp hf hb (wp_mono (y3g_ (C:=C) hS hP (fn.body.getD .skip) an _ σ _ _ hden B w0 m w a0 hR hpm hE) ?_);rintro x a' w' ⟨ex,e',σ1,m',h1,h2,hA⟩;have fin':∀ex,(ex=.normal\/ex=.ret)->K ex e' σ1=some r->a'.defers=[]/\∃v,(results fn a'.tmps).run P w'=.ok v w'/\Rr (.returned v) w':=fun ex hex hk=>
  ⟨by rw[hA.defers],fin ex e' σ1 m' a' w' hex hk hA.sub hA.r hA.env⟩
 cases x with
 |normal=>
  cases ex with
  |normal=>exact fin' .normal (.inl rfl) h2
  |_=>exact h1.elim
 |ret=>
  cases ex with
  |ret=>exact fin' .ret (.inr rfl) h2
  |_=>exact h1.elim
 |exit id=>
  cases ex with
  |exit i=>rw[hx]at h2;cases h2
  |_=>exact h1.elim
 |goto l=>cases ex<;>exact h1.elim
 |panic ch=>cases ex<;>exact h1.elim
 |outgrown=>cases ex<;>exact h1.elim
theorem y2e_{P:Program}{NG:Nat}{calls:FuncId->Option Spec}{pv:Nat->Bool}{n:Nat}{fn:Func}{B:Nat->Prop}{w0:Base}{m:Nat->Option Pl}{e:Env}{σ:Heap}{w:World}{a:Act}{Rt:Type}{ks:List Kd}{K:Tu ks->Option Rt}{r:Rt}(hR:R B w0 m σ w)(hE:EnvR ⟨P,NG,n,calls,pv⟩ m e a)
  (hk:resK ⟨P,NG,n,calls,pv⟩ e σ fn.results.toList (fun vs=>packs vs ks K)=some r):∃y v,(results fn a.tmps).run P w=.ok v w/\VR m (retV ks y) v/\K y=some r:=by
 obtain⟨vs,cvs,k1,k2,k3⟩:=y6s_ (C:=⟨P,NG,n,calls,pv⟩) hR hE fn.results.toList _ hk;obtain⟨y,k4,k5⟩:=yj_ vs ks _ k2;rw[<-k5]at k3;refine⟨y,_,?_,yii_ ks y k3,k4⟩;have hres:results fn a.tmps=(do let vs <-fn.results.mapM (rvSem a);pure (if h:vs.size=1 then vs[0]else .tuple vs)):=by
  unfold results
  congr 1
 rw[hres];simp only[Sem.run_bind,Array.mapM_eq_mapM_toList,Sem.run_map];rw[show(List.mapM (rvSem a) fn.results.toList:Sem (List Value)).run P w=.ok cvs w from k1];rfl
theorem y3a_:∀(ks:List Kd) (x:Tu ks),(Tu.vals ks x).length=ks.length
 |[],_=>rfl
 |[_],_=>rfl
 |k::k'::ks,x=>by simp only[Tu.vals,List.length_cons];rw[y3a_ (k'::ks) x.2];rfl
theorem y35_{Rt:Type}{C:Cx}{e:Env}{σ:Heap}{r:Rt}:∀{rs:List ResultVar} {K:List AVal->Option Rt},resK C e σ rs K=some r ->
  ∃vs,(∀τ,Ext σ τ->∀{R2:Type} (K2:List AVal->Option R2),resK C e τ rs K2=K2 vs)/\K vs=some r
 |[],K,h=>⟨[],fun _ _ _ _=>rfl,h⟩
 | .tmp t::rs,K,h=>by
  simp only[resK]at h
  split at h
  ·rename_i v hv
   obtain⟨vs,h1,h2⟩:=y35_ h;exact⟨v::vs,fun τ hX R2 K2=>by simp only[resK,hv];exact h1 τ hX _,h2⟩
  ·cases h
 | .cell a t::rs,K,h=>by
  simp only[resK]at h;obtain⟨ti,h,hti⟩:=y7_ h
  split at h
  ·rename_i p hp
   obtain⟨v,h,hv⟩:=y60_ h;obtain⟨vs,h1,h2⟩:=y35_ h;refine⟨v::vs,fun τ hX R2 K2=>?_,h2⟩;simp only[resK,hp];rw[hti];have h5:loadK ti τ p (fun v=>some v)=some v:=ybv_ hX v (hv (fun v=>some v));obtain⟨v',h6,h7⟩:=y60_ h5;cases h6;rw[h7];exact h1 τ hX _
  ·cases h
theorem y58_{Rt:Type}:∀(ks:List Kd) (x:Tu ks) (K:Tu ks->Option Rt),packs (Tu.vals ks x) ks K=K x
 |[],x,K=>rfl
 |[k],x,K=>by cases k<;>simp[packs,Tu.vals,asK,Kd.val]
 | k::k'::ks,x,K=>by
  have ih:=y58_ (Rt:=Rt) (k'::ks);cases hks:Tu.vals (k'::ks) x.2 with
  |nil=>have:=y3a_ (k'::ks) x.2;rw[hks]at this;cases this
  |cons v vs=>
   simp only[Tu.vals,hks,packs];have:asK k (k.val x.1)=fun(K:k.ty->Option Rt)=>K x.1:=by funext K;cases k<;>simp[asK,Kd.val]
   rw[this];dsimp only;rw[<-hks,ih]
theorem yck_{P:Program}{NG:Nat}{calls:FuncId->Option Spec}{pv:Nat->Bool}{f:FuncId}{fn:Func}{an:Ann}{ks pks:List Kd}{G:Tu pks->Heap->Option (Tu ks×Heap)}(n:Nat)(hC:∀g s,calls g=some s->SpecOk P NG g s)(hS:y4a_ ⟨P,NG,n,calls,pv⟩)(hP:y3b_ ⟨P,NG,n,calls,pv⟩)(hf:P.funcs[f]?=some fn)
  (hb:fn.body=some (fn.body.getD .skip)) (hn:fn.ntmps=n) (hnm:(fn.name == "runtime.NumGoroutine")=false) (hl:pks.length<=n)
  (heq:∀x σ,G x σ=denF ⟨P,NG,n,calls,pv⟩ fn.results.toList (fn.body.getD .skip) an ks (Tu.vals pks x) σ):SpecOk P NG f (.eff ks fun args σ=>packs args pks fun x=>G x σ):=by
 refine⟨⟨fn,hf,hnm,by rw[hb];rfl⟩,fun B w0 m σ w args cargs v σ' hg hR hpm hG hargs=>?_,fun args σ v σ' hg=>?_,fun ks g h=>by cases h⟩
 case refine_2=>
  simp only[Spec.run]at hg;cases hp:(packs args pks fun x=>G x σ) with
  |none=>rw[hp]at hg;cases hg
  | some z=>
   rw[hp]at hg;cases hg;obtain⟨x,h1,h2⟩:=yj_ args pks _ hp;rw[heq]at h1;obtain⟨ex,e',σ1,h3,h4⟩:=y5b_ (C:=⟨P,NG,n,calls,pv⟩) hC _ _ _ _ _ _ h1;have h5:resK ⟨P,NG,n,calls,pv⟩ e' σ1 fn.results.toList (fun vs=>packs vs ks fun r=>some (r,σ1))=some z:=by
    cases ex with
    |exit i=>cases h3
    |normal=>exact h3
    |ret=>exact h3
   obtain⟨vs,_,h6⟩:=y35_ h5;obtain⟨y,h7,_⟩:=yj_ _ _ _ h6;cases h7;exact h4
 simp only[Spec.run]at hg;cases hp:(packs args pks fun x=>G x σ) with
 |none=>rw[hp]at hg;cases hg
 |some z=>
  rw[hp]at hg;cases hg;obtain⟨x,h1,h2⟩:=yj_ args pks _ hp;rw[heq]at h1;subst h2;refine y8n_ hS hP hf hb hn (by rw[y3a_];exact hl) h1 hR (fun hx=>by have:=hpm hx;simp[isPur]at this) hG hargs (fun ex e' σ1 m' a' w' hex hk S hR' hE'=>?_) (fun i e' σ1=>rfl);have hk':resK ⟨P,NG,n,calls,pv⟩ e' σ1 fn.results.toList (fun vs=>packs vs ks fun r=>some (r,σ1))=some z:=by rcases hex with rfl|rfl<;>exact hk
  obtain⟨y,u,k1,k2,k3⟩:=y2e_ hR' hE' hk';cases k3;exact⟨u,k1,m',u,rfl,S,hR',k2⟩
theorem ycz_{P:Program}{NG:Nat}{calls:FuncId->Option Spec}{pv:Nat->Bool}{f:FuncId}{fn:Func}{an:Ann}{ks pks:List Kd}{G:Tu pks->Heap->Option (Tu ks)}(n:Nat)(hC:∀g s,calls g=some s->SpecOk P NG g s)(hS:y4a_ ⟨P,NG,n,calls,pv⟩)(hP:y3b_ ⟨P,NG,n,calls,pv⟩)(hf:P.funcs[f]?=some fn)
  (hb:fn.body=some (fn.body.getD .skip)) (hn:fn.ntmps=n) (hnm:(fn.name == "runtime.NumGoroutine")=false) (hl:pks.length<=n)
  (heq:∀x σ,G x σ=denP ⟨P,NG,n,calls,pv⟩ fn.results.toList (fn.body.getD .skip) an ks (Tu.vals pks x) σ):SpecOk P NG f (.pur ks fun args σ=>packs args pks fun x=>G x σ):=by
 refine⟨⟨fn,hf,hnm,by rw[hb];rfl⟩,fun B w0 m σ w args cargs v σ' hg hR hpm hG hargs=>?_,fun args σ v σ' hg=>?_,fun ks' g' h args σ τ y hX hg=>?_⟩
 case refine_2=>
  simp only[Spec.run]at hg;cases hp:(packs args pks fun x=>G x σ) with
  |none=>rw[hp]at hg;cases hg
  |some z=>rw[hp]at hg;cases hg;exact Grw.refl _
 case refine_3=>
  cases h;obtain⟨x,h1,h2⟩:=yj_ args pks _ hg;subst h2;have h3:G x τ=some y:=by
   rw[heq]at h1⊢;unfold denP at h1⊢;cases hpu:pureC ⟨P,NG,n,calls,pv⟩ (fn.body.getD .skip) with
   |false=>rw[hpu]at h1;cases h1
   |true=>
    rw[hpu]at h1;simp only[cond_true]at h1⊢;obtain⟨ex,e',k1,k2⟩:=ydm_ (C:=⟨P,NG,n,calls,pv⟩) hC _ _ _ _ _ _ hpu h1;rw[k2 τ hX];cases ex with
    |exit i=>cases k1
    |normal=>obtain⟨vs,q1,q2⟩:=y35_ k1;exact(q1 τ hX _).trans q2
    |ret=>obtain⟨vs,q1,q2⟩:=y35_ k1;exact(q1 τ hX _).trans q2
  exact(y58_ pks x _).trans h3
 simp only[Spec.run]at hg;cases hp:(packs args pks fun x=>G x σ) with
 |none=>rw[hp]at hg;cases hg
 | some z=>
  rw[hp]at hg;cases hg;obtain⟨x,h1,h2⟩:=yj_ args pks _ hp;rw[heq]at h1;subst h2;unfold denP at h1;cases hpu:pureC ⟨P,NG,n,calls,pv⟩ (fn.body.getD .skip) with
  |false=>rw[hpu]at h1;cases h1
  | true=>
   rw[hpu]at h1;simp only[cond_true]at h1;have h3:den ⟨P,NG,n,calls,pv⟩ (fn.body.getD .skip) an (env0 0 (Tu.vals pks x)) σ (fun ex e σ'=>chk (σ'=σ) (match ex with
     | .exit _=>none
     |_=>resK ⟨P,NG,n,calls,pv⟩ e σ fn.results.toList fun vs=>packs vs ks fun r=>some r))=some z:=by
    rw[<-h1];refine ybs_ hP _ _ _ _ _ _ hpu (fun ex e=>?_);rw[y29_ rfl];cases ex<;>rfl
   refine y8n_ hS hP hf hb hn (by rw[y3a_];exact hl) h3 hR (fun _=>hpu) hG hargs (fun ex e' σ1 m' a' w' hex hk S hR' hE'=>?_) (fun i e' σ1=>?_)
   ·obtain⟨q1,q2⟩:=y12_ hk
    subst q1;have hk':resK ⟨P,NG,n,calls,pv⟩ e' σ1 fn.results.toList (fun vs=>packs vs ks fun r=>some r)=some z:=by rcases hex with rfl|rfl<;>exact q2
    obtain⟨y,u,k1,k2,k3⟩:=y2e_ hR' hE' hk';cases k3;exact⟨u,k1,m',u,rfl,S,hR',k2⟩
   ·unfold chk;split<;>rfl
theorem y1_{P:Program}{NG:Nat}:∀g s,y3p_ g=some s->SpecOk P NG g s:=fun g s h=>by cases h
theorem y0_{P:Program}{NG:Nat}{n:FuncId}{W:Spec}{rest:FuncId->Option Spec}(h1:SpecOk P NG n W)(h2:∀g s,rest g=some s->SpecOk P NG g s):∀g s,tab n W rest g=some s->SpecOk P NG g s:=fun g s h=>by
 unfold tab at h;cases hb:Nat.beq g n with
 |true=>rw[hb]at h;cases h;rw[Nat.eq_of_beq_eq_true hb];exact h1
 |false=>rw[hb]at h;exact h2 g s h
end
section
open Go Go.RowKit
theorem y7i_{P:Program}{NG:Nat}{calls:FuncId->Option Spec}{pv:Nat->Bool}{f:FuncId}{fn:Func}{an:Ann}{ks pks:List Kd}{G:Tu pks->Heap->Option (Tu ks×Heap)}(n:Nat)(hm:P.follows .mixedOrders=true)(hC:∀g s,calls g=some s->SpecOk P NG g s)(hf:P.funcs[f]?=some fn)
  (hb:fn.body=some (fn.body.getD .skip)) (hn:fn.ntmps=n) (hnm:(fn.name == "runtime.NumGoroutine")=false) (hl:pks.length<=n)
  (heq:∀x σ,G x σ=denF ⟨P,NG,n,calls,pv⟩ fn.results.toList (fn.body.getD .skip) an ks (Tu.vals pks x) σ):SpecOk P NG f (.eff ks fun args σ=>packs args pks fun x=>G x σ):=
 yck_ n hC (y5u_ (C:=⟨P,NG,n,calls,pv⟩) hC hm) (y6w_ (C:=⟨P,NG,n,calls,pv⟩) hC) hf hb hn hnm hl heq
theorem yct_{P:Program}{NG:Nat}{calls:FuncId->Option Spec}{pv:Nat->Bool}{f:FuncId}{fn:Func}{an:Ann}{ks pks:List Kd}{G:Tu pks->Heap->Option (Tu ks)}(n:Nat)(hm:P.follows .mixedOrders=true)(hC:∀g s,calls g=some s->SpecOk P NG g s)(hf:P.funcs[f]?=some fn)
  (hb:fn.body=some (fn.body.getD .skip)) (hn:fn.ntmps=n) (hnm:(fn.name == "runtime.NumGoroutine")=false) (hl:pks.length<=n)
  (heq:∀x σ,G x σ=denP ⟨P,NG,n,calls,pv⟩ fn.results.toList (fn.body.getD .skip) an ks (Tu.vals pks x) σ):SpecOk P NG f (.pur ks fun args σ=>packs args pks fun x=>G x σ):=
 ycz_ n hC (y5u_ (C:=⟨P,NG,n,calls,pv⟩) hC hm) (y6w_ (C:=⟨P,NG,n,calls,pv⟩) hC) hf hb hn hnm hl heq
theorem yej_{P:Program}{NG:Nat}{calls:FuncId->Option Spec}{f:FuncId}{fn:Func}{an:Ann}{ks pks:List Kd}{G:Tu pks->Heap->Option (Tu ks×Heap)}(n:Nat)(hm:P.follows .mixedOrders=true)(hC:∀g s,calls g=some s->SpecOk P NG g s)(hf:P.funcs[f]?=some fn)
  (hb:fn.body=some (fn.body.getD .skip)) (hn:fn.ntmps=n) (hnm:(fn.name == "runtime.NumGoroutine")=false) (hl:pks.length<=n)
  (heq:∀x σ,G x σ=denF ⟨P,NG,n,calls,fun _=>false⟩ fn.results.toList (fn.body.getD .skip) an ks (Tu.vals pks x) σ):SpecOk P NG f (.eff ks fun args σ=>packs args pks fun x=>G x σ):=
 y7i_ n hm hC hf hb hn hnm hl heq
theorem yf1_{P:Program}{NG:Nat}{calls:FuncId->Option Spec}{f:FuncId}{fn:Func}{an:Ann}{ks pks:List Kd}{G:Tu pks->Heap->Option (Tu ks)}(n:Nat)(hm:P.follows .mixedOrders=true)(hC:∀g s,calls g=some s->SpecOk P NG g s)(hf:P.funcs[f]?=some fn)
  (hb:fn.body=some (fn.body.getD .skip)) (hn:fn.ntmps=n) (hnm:(fn.name == "runtime.NumGoroutine")=false) (hl:pks.length<=n)
  (heq:∀x σ,G x σ=denP ⟨P,NG,n,calls,fun _=>false⟩ fn.results.toList (fn.body.getD .skip) an ks (Tu.vals pks x) σ):SpecOk P NG f (.pur ks fun args σ=>packs args pks fun x=>G x σ):=
 yct_ n hm hC hf hb hn hnm hl heq
end
section
open Go Go.RowKit
theorem y63_{P:Program}{NG:Nat}{f:FuncId}{fn:Func}{ks:List Kd}{g:List AVal->Heap->Option (Tu ks×Heap)}(hf:P.funcs[f]?=some fn)(hb:fn.body=some (fn.body.getD .skip))(hnm:(fn.name == "runtime.NumGoroutine")=false)(h:∀args σ,g args σ=none):SpecOk P NG f (.eff ks g):=
 ⟨⟨fn,hf,hnm,by rw[hb];rfl⟩,fun B w0 m σ w args cargs v σ' hg=>by simp[Spec.run,h]at hg,fun args σ v σ' hg=>by simp[Spec.run,h]at hg,fun ks g h=>by cases h⟩
theorem y99_{α:Type}:∀(args:List AVal) (pks:List Kd),packs args pks (fun _=>(none:Option α))=none:=fun args pks=>by
 cases h:packs args pks (fun _=>(none:Option α)) with
 |none=>rfl
 |some r=>obtain⟨x,h1,_⟩:=yj_ args pks _ h;cases h1
theorem ygj_{α:Type}{pks:List Kd}{args:List AVal}{F:Nat->Tu pks->Option α}{r:α}(h:packs args pks (fun x=>lim fun n=>F n x)=some r):∃n,packs args pks (F n)=some r:=by
 obtain⟨x,h1,h2⟩:=yj_ args pks _ h;obtain⟨n,h3⟩:=yh5_ h1;subst h2;exact⟨n,by rw[y58_];exact h3⟩
theorem y8i_{P:Program}{NG:Nat}{f:FuncId}{ks pks:List Kd}{G:Nat->Tu pks->Heap->Option (Tu ks×Heap)}(h:∀n,SpecOk P NG f (.eff ks fun args σ=>packs args pks fun x=>G n x σ)) :
  SpecOk P NG f (.eff ks fun args σ=>packs args pks fun x=>lim fun n=>G n x σ):=by
 have key:∀args σ v σ',Spec.run (.eff ks fun args σ=>packs args pks fun x=>lim fun n=>G n x σ) args σ=some (v,σ')->∃n,Spec.run (.eff ks fun args σ=>packs args pks fun x=>G n x σ) args σ=some (v,σ'):=fun args σ v σ' hg=>by
  simp only[Spec.run]at hg⊢;cases hp:(packs args pks fun x=>lim fun n=>G n x σ) with
  |none=>rw[hp]at hg;cases hg
  |some z=>
   rw[hp]at hg;obtain⟨n,hn⟩:=ygj_ hp;exact⟨n,by rw[hn];exact hg⟩
 refine⟨(h 0).enters,fun B w0 m σ w args cargs v σ' hg hR hpm hG hargs=>?_,fun args σ v σ' hg=>?_,fun ks g h=>by cases h⟩
 ·obtain⟨n,hn⟩:=key args σ v σ' hg
  exact(h n).calls B w0 m σ w args cargs v σ' hn hR hpm hG hargs
 ·obtain⟨n,hn⟩:=key args σ v σ' hg
  exact(h n).next args σ v σ' hn
end
section
open Go Go.RowKit
def DefOk(P:Program)(NG:Nat)(f:FuncId)(s:Spec):Prop:=
 ∀(B:Nat->Prop) (w0:Base) (m:Nat->Option Pl) (σ:Heap) (w:World) (args:List AVal) (cargs:List Value) (v:AVal) (σ':Heap) (u:FrameMode),s.run args σ=some (v,σ')->R B w0 m σ w->w0.pm=false->GlobR NG m->VRs m args cargs ->
  CallsD P f cargs.toArray u w fun e u' w'=>u'=u/\∃m' cv,e=.returned cv/\Sub m m'/\R B w0 m' σ' w'/\VR m' v cv
theorem yf5_{P:Program}{NG:Nat}{calls:FuncId->Option Spec}{fn:Func}{n:Nat}(hn:fn.ntmps=n){args:List AVal}(hlen:args.length<=n){m:Nat->Option Pl}{cargs:List Value}(hG:GlobR NG m)(hargs:VRs m args cargs) :
  EnvR ⟨P,NG,n,calls,fun _=>false⟩ m (env0 0 args) { tmps:=cargs.toArray++Array.replicate (fn.ntmps-cargs.toArray.size) undef,defers:=[] }:=by
 have hl:=hargs.length;refine⟨fun t v ht=>?_,hG,by simp[hn];omega⟩;obtain⟨_,h2⟩:=y7x_ args 0 t v ht;obtain⟨u,h3,h4⟩:=hargs.get t v (by simpa using h2);have hlt:=(List.getElem?_eq_some_iff.1 h3).1;have:(cargs.toArray++Array.replicate (fn.ntmps-cargs.toArray.size) undef).getD t undef=u:=by
  simp only[Array.getD_eq_getD_getElem?];rw[Array.getElem?_append_left (by simpa using hlt)];simp[h3]
 show VR m v _;rw[this];exact h4
theorem ygd_{P:Program}{NG:Nat}{calls:FuncId->Option Spec}{f:FuncId}{fn:Func}{an:Ann}{ks pks:List Kd}{G:Tu pks->Heap->Option (Tu ks×Heap)}(n:Nat)(hm:P.follows .mixedOrders=true)(hC:∀g s,calls g=some s->SpecOk P NG g s)(hf:P.funcs[f]?=some fn)
  (hb:fn.body=some (fn.body.getD .skip)) (hn:fn.ntmps=n) (hl:pks.length<=n)
  (heq:∀x σ,G x σ=denF ⟨P,NG,n,calls,fun _=>false⟩ fn.results.toList (fn.body.getD .skip) an ks (Tu.vals pks x) σ):DefOk P NG f (.eff ks fun args σ=>packs args pks fun x=>G x σ):=by
 intro B w0 m σ w args cargs v σ' u hg hR hpm hG hargs;have hS:=y5u_ (C:=⟨P,NG,n,calls,fun _=>false⟩) hC hm;have hP:=y6w_ (C:=⟨P,NG,n,calls,fun _=>false⟩) hC;simp only[Spec.run]at hg;cases hp:(packs args pks fun x=>G x σ) with
 |none=>rw[hp]at hg;cases hg
 | some z=>
  rw[hp]at hg;cases hg;obtain⟨x,h1,h2⟩:=yj_ args pks _ hp;rw[heq]at h1;subst h2;have hE:=yf5_ (P:=P) (calls:=calls) hn (by rw[y3a_];exact hl) hG hargs;refine callsD_of_wp hf hb (wp_mono (y3g_ (C:=⟨P,NG,n,calls,fun _=>false⟩) hS hP (fn.body.getD .skip) an _ σ _ _ h1 B w0 m w _ hR (fun h=>by rw[hpm]at h;cases h) hE) ?_);rintro x a' w' ⟨ex,e',σ1,m',hx,hk,hA⟩;have fin:resK ⟨P,NG,n,calls,fun _=>false⟩ e' σ1 fn.results.toList (fun vs=>packs vs ks fun r=>some (r,σ1))=some z->a'.defers=[]/\∃v,(results fn a'.tmps).run P w'=.ok v w'/\∃m' cv,Ending.returned v=.returned cv/\Sub m m'/\R B w0 m' z.2 w'/\VR m' (retV ks z.1) cv:=fun hk=>by
   obtain⟨y,u,k1,k2,k3⟩:=y2e_ hA.r hA.env hk;cases k3;exact⟨by rw[hA.defers],u,k1,m',u,rfl,hA.sub,hA.r,k2⟩
  cases ex with
  |exit i=>cases hk
  |normal=>cases x<;>first|exact fin hk|exact hx.elim
  |ret=>cases x<;>first|exact fin hk|exact hx.elim
def denD(C:Cx)(rs:List ResultVar)(c0 c1 rest:Code)(o1:Oper)(g:FuncId)(an:Ann)(ks:List Kd)(args:List AVal)(σ:Heap):Option (Tu ks×Heap):=
 den C c0 an.fst (env0 0 args) σ fun ex e σ=>match ex with
 | .normal=>den C c1 an.snd.fst e σ fun ex e σ=>(match ex with
  | .normal=>dop C e o1 σ fun v σ=>den C rest an.snd.snd.snd (e.put o1.dst v) σ fun ex e σ=>(match ex with
   | .exit _=>none
   |_=>yr_ (C.calls g) [v,.int .i64 0] σ fun _ σ=>resK C e σ rs fun vs=>packs vs ks fun r=>some (r,σ))
  | .ret=>resK C e σ rs fun vs=>packs vs ks fun r=>some (r,σ)
  | .exit _=>none)
 |_=>none
theorem y7d_{Rt:Type}{s:Option Spec}{args:List AVal}{σ:Heap}{K:AVal->Heap->Option Rt}{r:Rt}(h:yr_ s args σ K=some r):∃s' v σ',s=some s'/\s'.run args σ=some (v,σ')/\K v σ'=some r:=by
 cases s with
 |none=>simp only[yr_]at h;cases h
 |some s=>
  rw[y3w_]at h;cases hr:s.run args σ with
  |none=>rw[hr]at h;cases h
  |some x=>rw[hr]at h;exact⟨s,x.1,x.2,rfl,hr,h⟩
theorem ybk_{P:Program}{NG:Nat}{calls:FuncId->Option Spec}{f:FuncId}{fn:Func}{an:Ann}{ks pks:List Kd}{G:Tu pks->Heap->Option (Tu ks×Heap)}{c0 c1 rest:Code}{o1 o2:Oper}{k t:Nat}{g:FuncId}{cc:Call}(n:Nat)(hm:P.follows .mixedOrders=true)
  (hC:∀g s,calls g=some s->SpecOk P NG g s) {sg:Spec} (hg0:calls g=some sg) (hD0:DefOk P NG g sg) (hf:P.funcs[f]?=some fn)
  (hb:fn.body=some (c0.seq (c1.seq ((Code.region k #[o1,o2] false).seq rest)))) (hn:fn.ntmps=n) (hnm:(fn.name == "runtime.NumGoroutine")=false) (hl:pks.length<=n)
  (h1:o1.guard=none) (h2:o2.guard=none) (hd1:o1.dst=some t) (ht:t<n) (hd2:o2.dst=none) (ho2:o2.op=.defer cc) (hcc:cc.callee=.value (.func g)) (hca:cc.args = #[.tmp t,.const (.int .i64 0)])
  (heq:∀x σ,G x σ=denD ⟨P,NG,n,calls,fun _=>false⟩ fn.results.toList c0 c1 rest o1 g an ks (Tu.vals pks x) σ):SpecOk P NG f (.eff ks fun args σ=>packs args pks fun x=>G x σ):=by
 have hS:=y5u_ (C:=⟨P,NG,n,calls,fun _=>false⟩) hC hm;have hP:=y6w_ (C:=⟨P,NG,n,calls,fun _=>false⟩) hC;have hD:∀s,calls g=some s->DefOk P NG g s:=fun s h=>by rw[hg0]at h;cases h;exact hD0
 have hN:∀f s,calls f=some s->∀args σ v σ',s.run args σ=some (v,σ')->Grw σ σ':=fun f s h=>(hC f s h).next;refine⟨⟨fn,hf,hnm,by rw[hb];rfl⟩,fun B w0 m σ w args cargs v σ' hg hR hpm hG hargs=>?_,fun args σ v σ' hg=>?_,fun ks g h=>by cases h⟩
 case refine_2=>
  simp only[Spec.run]at hg;cases hp:(packs args pks fun x=>G x σ) with
  |none=>rw[hp]at hg;cases hg
  | some z=>
   rw[hp]at hg;cases hg;obtain⟨x,k1,k2⟩:=yj_ args pks _ hp;rw[heq]at k1;have res:∀e' σ1,Grw σ σ1->resK ⟨P,NG,n,calls,fun _=>false⟩ e' σ1 fn.results.toList (fun vs=>packs vs ks fun r=>some (r,σ1))=some z->Grw σ z.2:=fun e' σ1 hg h5=>by
    obtain⟨vs,_,h6⟩:=y35_ h5;obtain⟨y,h7,_⟩:=yj_ _ _ _ h6;cases h7;exact hg
   obtain⟨ex,e1,σ1,h3,g1⟩:=y5b_ (C:=⟨P,NG,n,calls,fun _=>false⟩) hC _ _ _ _ _ _ k1;cases ex with
   |exit i=>cases h3
   |ret=>cases h3
   | normal=>
    obtain⟨ex,e2,σ2,h4,g2⟩:=y5b_ (C:=⟨P,NG,n,calls,fun _=>false⟩) hC _ _ _ _ _ _ h3;cases ex with
    |exit i=>cases h4
    |ret=>exact res _ _ (g1.trans g2) h4
    | normal=>
     obtain⟨v,σ3,h5,_,g3⟩:=y21_ (C:=⟨P,NG,n,calls,fun _=>false⟩) hN h4;obtain⟨ex,e4,σ4,h6,g4⟩:=y5b_ (C:=⟨P,NG,n,calls,fun _=>false⟩) hC _ _ _ _ _ _ h5;have fin:(yr_ (calls g) [v,.int .i64 0] σ4 fun _ σ=>resK ⟨P,NG,n,calls,fun _=>false⟩ e4 σ fn.results.toList fun vs=>packs vs ks fun r=>some (r,σ))=some z->Grw σ z.2:=fun h6=>by
      obtain⟨s,u,σ5,q1,q2,q3⟩:=y7d_ h6;exact res _ _ ((((g1.trans g2).trans g3).trans g4).trans (hN g s q1 _ _ _ _ q2)) q3
     cases ex with
     |exit i=>cases h6
     |ret=>exact fin h6
     |normal=>exact fin h6
 have hpm0:w0.pm=false:=by
  cases h:w0.pm with
  |false=>rfl
  |true=>have:=hpm h;simp[isPur]at this
 have hpx:∀c:Code,w0.pm=true->pureC ⟨P,NG,n,calls,fun _=>false⟩ c=true:=fun c h=>by rw[hpm0]at h;cases h
 simp only[Spec.run]at hg;cases hp:(packs args pks fun x=>G x σ) with
 |none=>rw[hp]at hg;cases hg
 | some z=>
  rw[hp]at hg;cases hg;obtain⟨x,k1,k2⟩:=yj_ args pks _ hp;rw[heq]at k1;subst k2;have hE:=yf5_ (P:=P) (calls:=calls) hn (by rw[y3a_];exact hl) hG hargs;refine calls_of_wp_defers hf hb (wp_seq (wp_mono (y3g_ (C:=⟨P,NG,n,calls,fun _=>false⟩) hS hP c0 an.fst _ σ _ _ k1 B w0 m w _ hR (hpx _) hE) ?_));rintro x a1 w1 ⟨ex,e1,σ1,m1,hx,hk,hA⟩;cases ex with
  |exit i=>cases hk
  |ret=>cases hk
  |normal=>
  cases x<;>try exact hx.elim
  refine wp_seq (wp_mono (y3g_ (C:=⟨P,NG,n,calls,fun _=>false⟩) hS hP c1 an.snd.fst _ σ1 _ _ hk B w0 m1 w1 a1 hA.r (hpx _) hA.env) ?_);rintro x a2 w2 ⟨ex,e2,σ2,m2,hx2,hk2,hA2⟩;have hd2':a2.defers=[]:=by rw[hA2.defers,hA.defers]
  cases ex with
  |exit i=>cases hk2
  |ret=>
   cases x<;>try exact hx2.elim
   show Leaves P fn a2.tmps _ a2.defers .returning w2;rw[hd2'];obtain⟨y,u,q1,q2,q3⟩:=y2e_ hA2.r hA2.env hk2;cases q3;exact⟨u,q1,m2,u,rfl,hA.sub.trans hA2.sub,hA2.r,q2⟩
  |normal=>
  cases x<;>try exact hx2.elim
  refine wp_seq (wp_region ?_);have hw1:∀y,Region.wanted o1 y=true:=fun y=>by simp[Region.wanted,h1]
  have hw2:∀y,Region.wanted o2 y=true:=fun y=>by simp[Region.wanted,h2]
  show(if Region.wanted o1 (yielded #[o1,o2] a2.tmps)then _\/_ else _);rw[if_pos (hw1 _)];refine .inl (y2q_ (C:=⟨P,NG,n,calls,fun _=>false⟩) hC hA2.r (fun h=>by rw[hpm0]at h;cases h) hA2.env hk2 fun cv w3 ⟨v,σ3,m3,g1,g2,g3,g4⟩=>?_);show(if Region.wanted o2 (yielded #[o1,o2] (a2.put o1.dst cv).tmps)then _\/_ else _);rw[if_pos (hw2 _)];refine .inl ?_;have hE3:EnvR ⟨P,NG,n,calls,fun _=>false⟩ m3 (e2.put o1.dst v) (a2.put o1.dst cv):=(hA2.env.mono g2).put g4 (fun s hs=>by rw[hd1]at hs;cases hs;exact ht);have hcv:(a2.put o1.dst cv).tmps.getD t undef=cv:=by
   rw[y4e_,if_pos ⟨hd1,by rw[hA2.env.size];exact ht⟩]
  have hex:(execOp (a2.put o1.dst cv).eval o2).run P w3=.ok (.defer { target:=.fn (.func g) #[],args:=#[cv,.int .i64 0] }) w3:=by
   simp only[execOp,ho2,Sem.run_bind,resolve,hcc,hca,Act.eval,Deferred.ofValue,Sem.run_pure,Result.andThen_ok];have e:Array.map (a2.put o1.dst cv).eval #[Operand.tmp t,Operand.const (Value.int IntKind.i64 0)] = #[cv,.int .i64 0]:=by
    simp only[List.map_toArray,List.map_cons,List.map_nil,Act.eval];rw[hcv]
   first|rw[e]|skip
   simp
  show o2.upon P (a2.put o1.dst cv) _ _ ((execOp (a2.put o1.dst cv).eval o2).run P w3);rw[hex,Oper.upon_defer,hd2];show(rest.wp P _ _ w3);have hE4:EnvR ⟨P,NG,n,calls,fun _=>false⟩ m3 (e2.put o1.dst v) { (a2.put o1.dst cv)with defers:={ target:=.fn (.func g) #[],args:=#[cv,.int .i64 0] }::(a2.put o1.dst cv).defers }:=⟨hE3.tmp,hE3.glob,hE3.size⟩;refine wp_mono (y3g_ (C:=⟨P,NG,n,calls,fun _=>false⟩) hS hP rest an.snd.snd.snd _ σ3 _ _ g1 B w0 m3 w3 _ g3 (hpx _) hE4) ?_;rintro x a5 w5 ⟨ex,e5,σ5,m5,hx5,hk5,hA5⟩;have hd5:a5.defers=[{ target:=.fn (.func g) #[],args:=#[cv,.int .i64 0] }]:=by
   rw[hA5.defers];show _::(a2.put o1.dst cv).defers=_;rw[y5v_,hd2']
  have fin:(yr_ (calls g) [v,.int .i64 0] σ5 fun _ σ=>resK ⟨P,NG,n,calls,fun _=>false⟩ e5 σ fn.results.toList fun vs=>packs vs ks fun r=>some (r,σ))=some z->Leaves P fn a5.tmps (fun e w'=>∃m' cv,e=.returned cv/\Sub m m'/\R B w0 m' z.2 w'/\VR m' (retV ks z.1) cv) a5.defers .returning w5:=fun h6=>by
   obtain⟨s,u,σ6,q1,q2,q3⟩:=y7d_ h6;rw[hd5];refine leaves_cons (f:=g) (args:=#[cv,.int .i64 0]) (by simp) ?_ ((hD s q1 B w0 m5 σ5 w5 _ [cv,.int .i64 0] u σ6 .returning q2 hA5.r hpm0 (hA5.env.glob) ?_).mono ?_)
   ·simp only[invoke]
    rw[show(#[cv,Value.int IntKind.i64 0] ++ #[]:Array Value) = #[cv,.int .i64 0] by simp];exact y62_ (hC g s q1) _ _
   ·simp only[VRs,VR]
    exact⟨_,_,rfl,VR.mono hA5.sub _ _ g4,_,_,rfl,rfl,rfl⟩
   ·rintro e u' w6 ⟨rfl,m6,cv6,rfl,S6,R6,V6⟩
    show Leaves P fn a5.tmps _ [] .returning w6;obtain⟨y,u2,q4,q5,q6⟩:=y2e_ R6 (hA5.env.mono S6) q3;cases q6;exact⟨u2,q4,m6,u2,rfl,(((hA.sub.trans hA2.sub).trans g2).trans hA5.sub).trans S6,R6,q5⟩
  cases ex with
  |exit i=>cases hk5
  |normal=>cases x<;>first|exact fin hk5|exact hx5.elim
  |ret=>cases x<;>first|exact fin hk5|exact hx5.elim
end
section
open Go Go.RowKit Go.Sort
theorem y5e_:∀{l:List AVal} {zs:List Int},intsL l=some zs->l=zs.map (.int .i64)
 |[],zs,h=>by cases h;rfl
 | .int k n::l,zs,h=>by
  cases k<;>try (cases h;done)
  simp only[intsL,Option.map_eq_some_iff]at h;obtain⟨z,h1,rfl⟩:=h;rw[y5e_ h1];rfl
 | .bool _::_,_,h=>by cases h
 | .str _::_,_,h=>by cases h
 | .ptr _ _::_,_,h=>by cases h
 | .nilp::_,_,h=>by cases h
 | .sl _ _ _ _::_,_,h=>by cases h
 | .nils::_,_,h=>by cases h
 | .box _::_,_,h=>by cases h
 | .map _::_,_,h=>by cases h
 | .nilm::_,_,h=>by cases h
 | .fn _ _ _::_,_,h=>by cases h
 | .nilf::_,_,h=>by cases h
 | .ifc _ _::_,_,h=>by cases h
 | .nili::_,_,h=>by cases h
 | .agg _::_,_,h=>by cases h
 | .tup _::_,_,h=>by cases h
def ygk_(P:Program)(f:FuncId):Prop:=∀(blk off cap:Nat) (zs:List Int) (w:World) (_:Holds (Value.int .i64) w blk off zs.toArray) (_:blk<w.heap.size) (_:zs.length<4611686018427387904),
  Calls P f #[.slice (some ⟨blk,off,none⟩) zs.length cap] w fun e w'=>
   e=.returned (.tuple #[])/\∃n os,w'=grow (putRow (Value.int .i64) (Sort.ahead w n) blk off (zs.mergeSort fun x y=>decide (x<=y)).toArray) os
theorem ycu_{P:Program}{NG:Nat}{f:FuncId}(hc:ygk_ P f)(he:∃fn,P.funcs[f]?=some fn/\(fn.name == "runtime.NumGoroutine")=false/\fn.body.isNone=false) :
  SpecOk P NG f (.eff [] fun args σ=>packs args [.V] fun x=>sortS x σ):=by
 have key:∀args σ v σ',Spec.run (.eff [] fun args σ=>packs args [.V] fun x=>sortS x σ) args σ=some (v,σ')->v=.tup []/\∃l off len c cs zs,args=[.sl l off len c]/\σ.get l=some (.cells .rw 1 cs)/\0<len/\off+len<=cs.length/\len<4611686018427387904 /\
   (cs.drop off).take len=zs.map (.int .i64)/\σ'=σ.set l (.cells .rw 1 (cs.take off++(yx_ zs).map (.int .i64)++cs.drop (off+len))):=by
  intro args σ v σ' h;simp only[Spec.run]at h;rcases args with _|⟨x,_|⟨y,l⟩⟩
  ·simp[packs]at h
  ·simp only[packs,asK]at h
   unfold sortS at h
   split at h
   ·split at h
    ·split at h
     ·rename_i hcond
      split at h
      ·rename_i zs hz
       simp only[Option.map_some,Option.some.injEq,Prod.mk.injEq]at h;exact⟨h.1.symm,_,_,_,_,_,zs,rfl,by assumption,hcond.1,hcond.2.1,hcond.2.2,y5e_ hz,h.2.symm⟩
      ·cases h
     ·cases h
    ·cases h
   ·cases h
  ·simp[packs]at h
 refine⟨he,fun B w0 m σ w args cargs v σ' hg hR hpm hG hargs=>?_,fun args σ v σ' hg=>?_,fun ks g h=>by cases h⟩
 ·obtain⟨rfl,l,off,len,c,cs,zs,rfl,hl,h0,hle,hlt,hz,rfl⟩:=key _ _ _ _ hg
  have hpf:w0.pm=false:=by
   cases hp:w0.pm with
   |false=>rfl
   |true=>exact absurd (hpm hp) (by simp[isPur])
  simp only[VRs]at hargs;obtain⟨cv,vs',rfl,hv,rfl⟩:=hargs;simp only[VR]at hv;obtain⟨p,cap,o,hm,hc1,hc2,hlc,ho,rfl⟩:=hv;obtain⟨p',hm',cc,e,fr,g1,g2,g3,g4,g5,g6,g7⟩:=hR.obj l _ hl;rw[hm]at hm';cases hm';have hfr:=g2 rfl;subst hfr;have ho':=ho (by omega);rw[g3,Nat.mul_one]at ho';subst ho';have hzl:zs.length=len:=by have:=congrArg List.length hz;simp at this;omega
  have hcell:∀j n,zs[j]?=some n->cc[p.start+off+j]?=some (.int .i64 n):=by
   intro j n hj;have:cs[off+j]?=some (.int .i64 n):=by
    have h1:((cs.drop off).take len)[j]?=some (.int .i64 n):=by rw[hz];simp[hj]
    rw[List.getElem?_take]at h1
    split at h1
    ·rwa [List.getElem?_drop]at h1
    ·cases h1
   obtain⟨v,k1,k2,_⟩:=g7 _ _ this;simp only[VR]at k2;subst k2;rw[<-k1];congr 1;omega
  have hH:Holds (Value.int .i64) w p.blk (p.start+off) zs.toArray:=by
   intro j hj;have hj':j<zs.length:=by simpa using hj
   have:=hcell j zs[j] (by simp[hj']);refine⟨?_,?_⟩
   ·simp only[World.cell?,g1]
    simp[this,getElem!_pos,hj']
   ·simp[World.frozen?,g1]
  have hcall:=hc p.blk (p.start+off) cap zs w hH (hR.dom l p hm).2 (by omega);rw[hzl]at hcall;refine hcall.mono fun e1 w1 ⟨h1,n,os,h2⟩=>?_;subst h1 h2;refine⟨m,.tuple #[],rfl,Sub.refl m,?_,by simp only[VR,VRs];exact⟨[],rfl,rfl⟩⟩;have hblk:=(hR.dom l p hm).2;have hd:(zs.mergeSort fun x y=>decide (x<=y)).toArray.size=len:=by simp[List.length_mergeSort,hzl]
  have hsl:=y3u_ zs;have heap1:∀k,k<w.heap.size->(grow (putRow (Value.int .i64) (Sort.ahead w n) p.blk (p.start+off) (zs.mergeSort fun x y=>decide (x<=y)).toArray) os).heap[k]?=if p.blk=k then(w.heap[k]?).map (onCells (putCells (Value.int .i64) (p.start+off) (zs.mergeSort fun x y=>decide (x<=y)).toArray))else w.heap[k]?:=by
   intro k hk;simp only[grow,putRow,mapBlock,Sort.ahead];rw[Array.getElem?_append_left (by simpa using hk),Array.getElem?_modify]
  have hlen:(cs.take off++(yx_ zs).map (AVal.int .i64)++cs.drop (off+len)).length=cs.length:=by simp;omega
  refine R.upd (b:=p.blk) (l:=l) (o:=.cells .rw 1 (cs.take off++(yx_ zs).map (.int .i64)++cs.drop (off+len))) (p:=p) hR ⟨rfl,rfl,rfl,by simp[grow,putRow,mapBlock,Sort.ahead],fun k hk hlt=>?_⟩ (hR.own hpf l _ p hl rfl hm) (Sub.refl m) (fun _ _=>rfl) hm rfl (by simp[grow,putRow,mapBlock,Sort.ahead];omega)
   (fun k q hq=>.inl hq) (by simp[Heap.set]) (by simpa[Heap.set] using(hR.dom l p hm).1) (fun k x hk hx=>?_) (by simp[Heap.set]) ?_
  ·rw[heap1 k hlt,if_neg (Ne.symm hk)]
  ·simp only[Heap.set,if_neg hk]at hx
   exact⟨hx,fun q hq=>Ne.symm (hR.excl l k _ x p q (Ne.symm hk) hl hx hm hq rfl)⟩
  ·refine⟨putCells (Value.int .i64) (p.start+off) (zs.mergeSort fun x y=>decide (x<=y)).toArray cc,e,(0,0),by rw[heap1 _ hblk,if_pos rfl,g1];rfl,fun _=>rfl,g3,trivial,by rw[hlen];exact g5,by simp[putCells];omega,fun i a hi=>?_⟩
   simp only[putCells,Array.getElem?_mapIdx];rw[hd];have hsp:=y3t_ cs ((yx_ zs).map (AVal.int .i64)) off (by simp;omega) i;have e1:off+((yx_ zs).map (AVal.int .i64)).length=off+len:=by simp;omega
   rw[e1]at hsp;rw[hsp]at hi;by_cases i1:i<off
   ·rw[if_pos i1]at hi
    obtain⟨v,k1,k2,k3⟩:=g7 i a hi;exact⟨v,by rw[k1,Option.map_some,if_neg (by omega)],k2,k3⟩
   ·rw[if_neg i1]at hi
    by_cases i2:i<off+len
    ·rw[if_pos i2]at hi
     have hlt':i-off<(yx_ zs).length:=by omega
     have:(yx_ zs)[i-off]?=some ((yx_ zs)[i-off]):=by simp[hlt']
     simp only[List.getElem?_map,this,Option.map_some,Option.some.injEq]at hi;subst hi;obtain⟨v,k1,_⟩:=g7 i cs[i] (by simp);refine⟨.int .i64 ((yx_ zs)[i-off]),?_,by simp only[VR],rfl⟩;rw[k1,Option.map_some,if_pos (by omega)];have e2:p.start+i-(p.start+off)=i-off:=by omega
     rw[e2]
     congr 2
     have hh:i-off<(zs.mergeSort fun x y=>decide (x<=y)).length:=hlt';rw[getElem!_pos _ _ (by simpa using hh)];simp[yx_]
    ·rw[if_neg i2]at hi
     obtain⟨v,k1,k2,k3⟩:=g7 i a hi;exact⟨v,by rw[k1,Option.map_some,if_neg (by omega)],k2,k3⟩
 ·obtain⟨_,l,off,len,c,cs,zs,_,hl,_,_,_,_,rfl⟩:=key _ _ _ _ hg
  exact Grw.set rfl
end
section
open Go
theorem yac_{X Y:Type}{f:X->Heap->Option ((X⊕Y)×Heap)}:∀(n k:Nat) (x:X) (σ:Heap) (y z:Y×Heap),loopN f n x σ=some y->loopN f k x σ=some z->y=z
 |0,k,x,σ,y,z,h,_=>by cases h
 |n+1,0,x,σ,y,z,_,h=>by cases h
 | n+1,k+1,x,σ,y,z,h1,h2=>by
  simp only[loopN]at h1 h2;cases hf:f x σ with
  |none=>rw[hf]at h1;cases h1
  |some u=>
   rw[hf]at h1 h2;obtain⟨u,σ1⟩:=u;cases u with
   |inl x'=>exact yac_ n k x' σ1 y z h1 h2
   |inr y'=>cases h1;cases h2;rfl
theorem y82_{X Y:Type}{f:X->Heap->Option ((X⊕Y)×Heap)}{n:Nat}{x:X}{σ:Heap}{y:Y×Heap}(h:loopN f n x σ=some y):loopW f x σ=some y:=by
 unfold loopW;have hx:∃n r,loopN f n x σ=some r:=⟨n,y,h⟩;rw[dif_pos hx];exact congrArg some (yac_ _ _ x σ _ _ hx.choose_spec.choose_spec h)
theorem y5r_{X Y:Type}{f:X->Heap->Option ((X⊕Y)×Heap)}{x:X}{σ σ':Heap}{y:Y}(h:f x σ=some (.inr y,σ')):loopW f x σ=some (y,σ'):=
 y82_ (n:=1) (by simp only[loopN,h])
theorem y8h_{X Y:Type}{f:X->Heap->Option ((X⊕Y)×Heap)}{x x':X}{σ σ':Heap}{r:Y×Heap}(h:f x σ=some (.inl x',σ'))(h':loopW f x' σ'=some r):loopW f x σ=some r:=by
 have:∃n,loopN f n x' σ'=some r:=by
  unfold loopW at h'
  split at h'
  ·rename_i hx;cases h';exact⟨_,hx.choose_spec.choose_spec⟩
  ·cases h'
 obtain⟨n,hn⟩:=this;exact y82_ (n:=n+1) (by simp only[loopN,h];exact hn)
theorem loopPN_det'{X Y:Type}{f:X->Option (X⊕Y)}:∀(n k:Nat) (x:X) (y z:Y),yq_ f n x=some y->yq_ f k x=some z->y=z
 |0,k,x,y,z,h,_=>by cases h
 |n+1,0,x,y,z,_,h=>by cases h
 | n+1,k+1,x,y,z,h1,h2=>by
  simp only[yq_]at h1 h2;cases hf:f x with
  |none=>rw[hf]at h1;cases h1
  |some u=>
   rw[hf]at h1 h2;cases u with
   |inl x'=>exact loopPN_det' n k x' y z h1 h2
   |inr y'=>cases h1;cases h2;rfl
theorem loopP_of'{X Y:Type}{f:X->Option (X⊕Y)}{n:Nat}{x:X}{y:Y}(h:yq_ f n x=some y):loopP f x=some y:=by
 unfold loopP;have hx:∃n r,yq_ f n x=some r:=⟨n,y,h⟩;rw[dif_pos hx];exact congrArg some (loopPN_det' _ _ x _ _ hx.choose_spec.choose_spec h)
theorem y8z_{X Y:Type}{f:X->Option (X⊕Y)}{x:X}{y:Y}(h:f x=some (.inr y)):loopP f x=some y:=
 loopP_of' (n:=1) (by simp only[yq_,h])
theorem yeo_{X Y:Type}{f:X->Option (X⊕Y)}{x x':X}{r:Y}(h:f x=some (.inl x'))(h':loopP f x'=some r):loopP f x=some r:=by
 have:∃n,yq_ f n x'=some r:=by
  unfold loopP at h'
  split at h'
  ·rename_i hx;cases h';exact⟨_,hx.choose_spec.choose_spec⟩
  ·cases h'
 obtain⟨n,hn⟩:=this;exact loopP_of' (n:=n+1) (by simp only[yq_,h];exact hn)
end
end Go.Proofs.YtekehmgfedmflaaGreatDoor.A
end

/- law27: ReverseRule (but for comparing two lists). · law27: R -/
import Derived.Test.YthalajhajpjjeaaGreatZfAF
import Derived.Test.YthalajhajpjjeaaGreatZfAY
import Derived.Test.YthalajhajpjjeaaGreatZfAW
import Derived.Test.YthalajhajpjjeaaGreatZfAQ
import Derived.Test.YthalajhajpjjeaaGreatRows
set_option linter.unusedVariables false
set_option linter.unusedSimpArgs false
section
set_option maxRecDepth 100000
set_option maxHeartbeats 4000000
open Go Go.Proofs
namespace Go.Abs
theorem Rf {t:Types}{s:Stp26}(c:s.rule.ok)(h:EQ t s=0):(u6 t s).rule.ok/\u6 t s=fP t (u6 t s).rule (u6 t s).before (u6 t s).mat/\0=nF t (u6 t s).rule (u6 t s).before (u6 t s).mat:=by
 have e:u6 t s=fP t (iL t s) s.after (AX s):=by unfold u6;rw [if_pos h]
 have a:=h
 unfold EQ at a
 split at a
 .contradiction
 .rename_i f
  have d:=(Be c (bW f)).2.2
  have b:fP t (iL t s) s.after (AX s)=bG t (iL t s) s.after (AX s):=by unfold fP;rw [if_pos a]
  rw [e,b]
  refine ⟨d,?_,a.symm⟩
  show bG t (iL t s) s.after (AX s)=fP t (iL t s) s.after (AX s)
  rw [b]
theorem PT {t:Types}{s:Stp26}(c:s.rule.ok)(h:EQ t s=0):graphF (u6 t s).after.graph=0/\graphF s.before.graph=0:=by
 obtain ⟨r,b,m,a,d,e,B⟩:=OW c h
 rw [d,a]
 rw [a] at B
 exact ⟨(r4 B.K'.after).gg,B.K.S.ho.gg⟩
theorem QC {t:Types}{s:Stp26}(h:F5 t s=true):t.ok/\s.rule.ok:=by
 unfold F5 at h
 simp only [aR] at h
 exact Oc h.1.1.1.1
theorem Mo (t:Types)(h1:∀ n∈t.nodes,n.attrs.length<=1000000000000000)(s:Stp26)(C:s.le)(k:t.ok->s.rule.ok->CmpA t s):Pure Tryz.prog 6 [t.d,.agg s.c] (.bool true):=by
 obtain ⟨b,j⟩:=cF (F5 t s)
 have m:=Ea t h1 s C
 rw [<- j] at m
 have a:b=true->t.ok/\s.rule.ok:=λhbt=>QC (by rw [<- j];exact hbt)
 have y:b=true->Pure Tryz.prog 28 [t.d,.agg s.c] (.tup [(iL t s).d,dI (qP t s)]):=λh=>Bj t (a h).1 s (a h).2
 have x:b=true->Pure Tryz.prog 29 [t.d,.agg s.c] (.tup [(iL t s).d,dI (qP t s)]):=λh=>Fu t (a h).1 s (a h).2 (k (a h).1 (a h).2)
 have q:b=true->Pure Tryz.prog 30 [t.d,.agg s.c] (.tup [.agg (u6 t s).c,(KN t s).d,dI (EQ t s)]):=λh=>Bi t (a h).1 s (a h).2
 have o:b=true->Pure Tryz.prog 31 [t.d,.agg s.c] (.tup [.agg (u6 t s).c,(KN t s).d,dI (EQ t s)]):=λh=>NN t (a h).1 s (a h).2 (k (a h).1 (a h).2)
 have v:b=true->EQ t s=0->Pure Tryz.prog 18 [t.d,.agg (u6 t s).c] (.bool true):=λh h0=>by
  obtain ⟨B,A,z⟩:=Rf (a h).2 h0
  have D:=Dj t (a h).1 (u6 t s) B A z
  simpa using D
 have w:b=true->EQ t s=0->Pure Tryz.prog 34 [(u6 t s).after.d,s.before.d,(KN t s).d] (.bool true):=λh h0=>by
  obtain ⟨F,E⟩:=PT (a h).2 h0
  exact NO _ _ _ (Jp (a h).2 h0).1 F E
 have r:=Dt (iL t s) (iL t s)
 have l:=Ds (u6 t s) (u6 t s) (λi _ _=>AP _) (λi _ _=>AP _)
 have G:=Dw (KN t s)
 generalize iL t s=R at *
 generalize qP t s=e1 at *
 generalize u6 t s=u at *
 generalize KN t s=p at *
 generalize EQ t s=e2 at *
 rw [show decide (R=R)=true by simp] at r
 rw [show decide (u=u)=true by simp] at l
 simp only [Stp26.c,Rule.c,Mat.c,Host.c,c7,dA] at m y x q o v l
 unfold Host.d Host.c at w
 clear j k
 refine Tz.pK ⟨λt=>t==5||t==7||t==9||t==10||t==12||t==13,λ_=>[]⟩ Tryz.func6 rfl (λQ hQ=>?_)
 have Y:=wa @Stp26.c.eq_1 (wa @Rule.c.eq_1 (wa @Mat.c.eq_1 @Host.c.eq_1))
 refine t6 (h:=aB (DF) wl ?_)
 refine t6 (h:=aG (λhg=>m) (λhg=>wl) ?_)
 refine t6 (h:=wq (λh1=>?_) λh1=>?_)
 .refine pB (h:=aB (DF) wl ?_)
  have Y:=wa Y h1
  exact pB (h:=hQ _ _ wy)
 .have hbt:b=true:=by cases g:b<;>simp [g] at h1 ⊢
  refine pB (h:=aB (y hbt) wl ?_)
  refine pB (h:=aB (x hbt) wl ?_)
  refine pB (h:=aB (q hbt) wl ?_)
  refine pB (h:=aB (o hbt) wl ?_)
  refine t6 (h:=aB (r) wl ?_)
  refine t6 (h:=aG (λhg=>l) (λhg=>wl) ?_)
  refine t6 (h:=aG (λhg=>G) (λhg=>wl) ?_)
  refine t6 (h:=aG (λhg=>v hbt (by first|simpa using hg|(simp at hg;omega))) (λhg=>wl) ?_)
  refine t6 (h:=aG (λhg=>w hbt (by first|simpa using hg|(simp at hg;omega))) (λhg=>wl) ?_)
  have Y:=wa Y h1
  exact t6 (h:=hQ _ _ wy)
theorem Tm {t:Types}{s:Stp26}{B:Nat}(o:B<=1000000000000000)(d:s.bnd B)(h:s.rule.ok):CmpA t s:=by
 have c:∀ {l m:List (List Int)},(∀ v∈l,v.length<=1000000000000000/\∀ x∈v,Jj x)->(∀ v∈m,v.length<=B/\∀ x∈v,Jj x)->∀ i (h1:i<l.length) (h2:i<m.length),Ap l[i] m[i]:=λhl hm i h1 h2=>by
  have n:=hl _ (aC h1)
  have k:=hm _ (aC h2)
  exact R6 n.2 k.2 aD aD
 have e:(∀ v∈(fP t s.rule s.before s.mat).before.values,v.length<=1000000000000000/\∀ x∈v,Jj x)/\∀ v∈(fP t s.rule s.before s.mat).after.values,v.length<=1000000000000000/\∀ x∈v,Jj x:=by
  unfold fP
  split
  .rename_i j
   have K:=An h j
   have row:∀ {g:Host},iF t g=0->∀ v∈g.values,v.length<=1000000000000000/\∀ x∈v,Jj x:=λhg v hv=>by
    have q:=(r4 hg).row v hv
    exact ⟨aD,λz hz=>by have:=q.2 z hz;unfold Jj;omega⟩
   exact ⟨λv hv=>⟨by have:=(d.b v hv).1;omega,(d.b v hv).2⟩,row K.after⟩
  .exact ⟨λv hv=>by simp [j7] at hv,λv hv=>by simp [j7] at hv⟩
 exact ⟨c e.1 d.b,c e.2 d.a⟩
theorem BI (t:Types)(h1:∀ n∈t.nodes,n.attrs.length<=1000000000000000)(s:Stp26){B:Nat}(hB:B<=1000000000000000)(hs:s.bnd B):Pure Tryz.prog 6 [t.d,.agg s.c] (.bool true) :=
 Mo t h1 s (Stp26.bnd_le hB hs) λ_ hr=>Tm hB hs hr
end Go.Abs
end
section
namespace Go.Proofs.YthalajhajpjjeaaGreat.bulks
open Go.Abs
theorem one_le {H:Type}(d:DataW H):1<=Rows.uptoBulk d:=by
 cases d with
 | lit l=>cases l<;>simp [Rows.uptoBulk]
 | _=>simp [Rows.uptoBulk]
theorem mem_le {H:Type}{d:DataW H}:∀ {l:List (DataW H)},d∈l->Rows.uptoBulk d<=Rows.uptoBulkAll l
 | [],h=>by cases h
 | x :: r,h=>by
  simp only [Rows.uptoBulkAll]
  rcases aU.1 h with rfl|h
  .omega
  .have:=mem_le h;omega
theorem len_le {H:Type}:∀ l:List (DataW H),l.length<=Rows.uptoBulkAll l
 | []=>by simp [Rows.uptoBulkAll]
 | x :: r=>by have:=one_le x;have:=len_le r;simp only [Rows.uptoBulkAll,fI];omega
theorem ok {H:Type}:Go.Abs.Bulk (Rows.uptoBulk (H:=H)) where
 len e s:=by have:=len_le e;simp only [Rows.uptoBulk];omega
 el e s d h:=by have:=mem_le h;simp only [Rows.uptoBulk];omega
 part l d h:=by have:=mem_le h;simp only [Rows.uptoBulk];omega
 str s:=by simp [Rows.uptoBulk]
theorem bound {H:Type}{l:List (DataW H)}(hk:Rows.uptoSmall H l=true):∀ d∈l,Rows.uptoBulk d<=1048576:=λd hd=>by
 have h:=of_decide_eq_true hk
 have:=mem_le hd
 omega
end Go.Proofs.YthalajhajpjjeaaGreat.bulks
end

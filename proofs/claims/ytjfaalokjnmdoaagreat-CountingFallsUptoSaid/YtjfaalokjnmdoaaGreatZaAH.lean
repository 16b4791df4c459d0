/- Layer 1, the reference: names. · Layer 4: types. · Layer 4:  -/
import Derived.Test.YtjfaalokjnmdoaaGreatZaAG
import Derived.Test.YtjfaalokjnmdoaaGreatZaAF
import Derived.Test.YtjfaalokjnmdoaaGreatZaAA
set_option linter.unusedVariables false
set_option linter.unusedSimpArgs false
section
set_option maxRecDepth 100000
set_option maxHeartbeats 4000000
open Go Go.Proofs
namespace Go.Abs
theorem AR (c:Int):Pure Tryz.prog 428 [.int .u8 c] (.bool (gZ c)):=by
 refine aP (aH (cfg:=⟨fun _=>false,fun _=>[]⟩) Tz.mixed Tryz.func428 rfl rfl (aE rfl) (by kernel_rfl) ?_)
 simp [go_sem,seval,gZ,D.cl]
 try omega
theorem rU (c:Int):Pure Tryz.prog 429 [.int .u8 c] (.bool (i9 c)):=by
 refine aP (aH (cfg:=⟨fun _=>false,fun _=>[]⟩) Tz.mixed Tryz.func429 rfl rfl (aE rfl) (by kernel_rfl) ?_)
 simp [go_sem,seval,i9,D.cl]
def tH (digits:Bool)(c:Int):Bool:=i9 c||(!digits&&(gZ c||c==95))
theorem Qf (s:ByteArray)(dg:Bool)(hs:s.size≤1000000):Pure Tryz.prog 430 [.str s,dI 0,.bool dg] (dI (fQ (tH dg) s)):=by
 refine aP (aH (cfg:=⟨fun _=>false,fun _=>[]⟩) Tz.mixed Tryz.func430 rfl rfl (aE rfl) (by kernel_rfl) ?_)
 simp [go_sem,seval,dI]
 refine eO (ι:=Nat) (fun n e H=>H=.emp∧n≤s.size∧e 0=.str s∧e 1=dI 0∧e 2=.bool dg∧e 7=dI n∧(∀ j,j<n→tH dg (vC s j)=true)) (fun n=>s.size - n) 0 (by simp [go_sem,seval,dI]) ?_
 intro n e H ⟨hH,hn,h0,h1,h2,h7,hp⟩
 subst hH
 have hb:((s.data[n]?.getD 0).toNat:Int)=vC s n:=rfl
 simp [go_sem,seval,h0,h1,h2,h7,dI,hb]
 refine ⟨c3 (by omega) (by omega),fun _=>c3 (by omega) (by omega),aN (fun _=>rU _) (fun _=>rfl) ?_⟩
 simp [go_sem,seval,h0,h1,h2,h7,dI,hb]
 refine ⟨fun _ _ _=>c3 (by omega) (by omega),fun h _ _=>h,aN (fun _=>AR _) (fun _=>rfl) ?_⟩
 simp [go_sem,seval,h0,h1,h2,h7,dI,hb]
 refine ⟨fun _ _ _ _=>c3 (by omega) (by omega),fun h _ _ _=>h,fun a b c d=>⟨⟨⟨a,b⟩,c⟩,d⟩,fun a b c=>⟨⟨a,b⟩,c⟩,fun a b=>⟨a,b⟩,aJ (fun h=>?_) (fun h=>?_)⟩
 ·have hr:n<s.size∧tH dg (vC s n)=true:=by simpa [tH] using h
  simp [go_sem,seval,h0,h1,h2,h7,dI]
  refine ⟨c3 (by omega) (by omega),n+1,by omega,by omega,by omega,fun j hj=>?_⟩
  rcases b8 j n with hj'|hj'
  ·exact hp j hj'
  ·have:j=n:=by omega
   subst this;exact hr.2
 ·have hr:n<s.size→tH dg (vC s n)=false:=by
   intro hlt
   simp [hlt] at h
   simp [tH]
   exact h
  simp [go_sem,seval,h0,h1,h2,h7,dI]
  rw [HR _ s n hp hn hr]
theorem IN (p : Nat → Bool) (n : Nat) : ∀ d k, k + d = n → (∀ j, 1 ≤ j → j < k → p j = true) → 1 ≤ k → ∃ k, 1 ≤ k ∧ k ≤ n ∧ (∀ j, 1 ≤ j → j < k → p j = true) ∧ (k < n → p k = false)
  | 0, k, h, hp, h1 => ⟨k, h1, by omega, hp, fun h => by omega⟩
  | d + 1, k, h, hp, h1 => by
    cases hk : p k with
    | false => exact ⟨k, h1, by omega, hp, fun _ => hk⟩
    | true =>
      refine IN p n d (k + 1) (by omega) (fun j hj hlt => ?_) (by omega)
      rcases b8 j k with h | h
      · exact hp j hj h
      · have : j = k := by omega
        subst this; exact hk
theorem JK (s:ByteArray)(h1:1≤s.size)(hs:s.size≤1000000):∃ n:Int,0≤n∧n≠1∧n≤s.size∧Pure Tryz.prog 431 [.str s,dI 0] (dI n):=by
 obtain ⟨k,hk1,hk2,hk3,hk4⟩:=IN (fun j=>mX (vC s j)) s.size (s.size - 1) 1 (by omega) (fun j h h'=>by omega) (by omega)
 refine ⟨if k<s.size∧vC s k=34 then k+1 else 0,by split<;>omega,by split<;>omega,by split<;>omega,aP (aH (cfg:=⟨fun _=>false,fun _=>[]⟩) Tz.mixed Tryz.func431 rfl rfl (aE rfl) (by kernel_rfl) ?_)⟩
 simp [go_sem,seval,dI]
 refine eO (ι:=Nat) (fun n e H=>H=.emp∧1≤n∧n≤k∧e 0=.str s∧e 1=dI 0∧e 5=dI n) (fun n=>s.size - n) 1 (by simp [go_sem,seval,dI];omega) ?_
 intro n e H ⟨hH,hn1,hn,h0,h1,h5⟩
 subst hH
 have hb:((s.data[n]?.getD 0).toNat:Int)=vC s n:=rfl
 simp [go_sem,seval,h0,h1,h5,dI,hb]
 refine ⟨c3 (by omega) (by omega),aJ (fun hlt=>?_) (fun hge=>?_)⟩
 ·simp at hlt
  simp [go_sem,seval,h0,h1,h5,dI,hb]
  refine ⟨c3 (by omega) (by omega),hlt,aJ (fun hq=>?_) (fun hq=>?_)⟩
  ·simp at hq
   have hnk:n=k:=by
    rcases b8 n k with h|h
    ·have:=hk3 n hn1 h;simp [mX,hq] at this
    ·omega
   subst hnk
   simp [go_sem,seval,h0,h1,h5,dI]
   exact ⟨c3 (by omega) (by omega),fun h=>absurd hq (h hlt)⟩
  ·simp at hq
   simp [go_sem,seval,h0,h1,h5,dI]
   refine aJ (fun hc=>?_) (fun hc=>?_)
   ·simp at hc
    have hnk:n=k:=by
     rcases b8 n k with h|h
     ·have:=hk3 n hn1 h;simp [mX] at this;omega
     ·omega
    subst hnk
    simp [go_sem,seval,h0,h1,h5,dI]
    omega
   ·simp at hc
    have hnk:n<k:=by
     rcases b8 n k with h|h
     ·exact h
     ·have hh:n=k:=by omega
      subst hh
      have:=hk4 hlt;simp [mX] at this;omega
    simp [go_sem,seval,h0,h1,h5,dI]
    exact ⟨c3 (by omega) (by omega),n+1,by omega,by omega,by omega,by omega⟩
 ·simp at hge
  simp [go_sem,seval,h0,h1,h5,dI]
  omega
def signs:List ByteArray:=If++[⟨#[123]⟩,⟨#[125]⟩,⟨#[40]⟩,⟨#[41]⟩,⟨#[91]⟩,⟨#[93]⟩,⟨#[44]⟩,⟨#[59]⟩,⟨#[58]⟩,⟨#[61]⟩,⟨#[43]⟩,⟨#[45]⟩,⟨#[42]⟩,⟨#[60]⟩,⟨#[62]⟩,⟨#[33]⟩,⟨#[38]⟩,⟨#[124]⟩,⟨#[46]⟩,⟨#[63]⟩]
theorem LD:Pure Tryz.prog 432 [] (o8 signs):=by
 refine aP (aH (cfg:=⟨fun _=>false,fun _=>[]⟩) Tz.mixed Tryz.func432 rfl rfl (aE rfl) (by kernel_rfl) ?_)
 simp [go_sem,seval,o8,cS,If,signs]
theorem EU (s:ByteArray):Pure Tryz.prog 387 [.agg [dI 1,.str s,dI 0]] (.str s):=by
 refine aP (aH (cfg:=⟨fun _=>false,fun _=>[]⟩) Tz.mixed Tryz.func387 rfl rfl (aE rfl) (by kernel_rfl) ?_)
 simp [go_sem,seval,dI]
theorem Ny:tH false=mY:=by
 funext c
 simp [tH,mY,Bool.or_assoc,Bool.or_comm,Bool.or_left_comm]
def uP (s l:ByteArray):Bool:=decide ((l.size:Int)≤s.size)&&decide (s.extract 0 l.size=l)
def yV (q : Int) (s : ByteArray) : Int × ByteArray × Int × Int :=
  if (gZ (vC s 0) || i9 (vC s 0)) = true then
    (if i9 (vC s 0) = true then (if 9 < fQ (tH true) s then (0, ⟨#[]⟩, 0, 3) else (2, s.extract 0 (fQ (tH true) s), fQ (tH true) s, 0))
     else (if 20 < fQ (tH false) s then (0, ⟨#[]⟩, 0, 3) else (1, s.extract 0 (fQ (tH false) s), fQ (tH false) s, 0)))
  else if vC s 0 = 34 then
    (if q = 0 then (0, ⟨#[]⟩, 0, 2) else if 60 < q - 2 then (0, ⟨#[]⟩, 0, 3) else (3, s.extract 1 (q - 1).toNat, q, 0))
  else match signs.find? (uP s) with
    | some l => (4, l, l.size, 0)
    | none => (0, ⟨#[]⟩, 0, 2)
theorem Qg (s:ByteArray)(h1:1≤s.size)(hs:s.size≤100000)(q:Int)(hq0:0≤q)(hq1:q≠1)(hq2:q≤s.size)(hq:Pure Tryz.prog 431 [.str s,dI 0] (dI q)) :
  Pure Tryz.prog 388 [.str s,dI 0] (.tup [.agg [dI (yV q s).1,.str (yV q s).2.1,dI 0],dI (yV q s).2.2.1,dI (yV q s).2.2.2]):=by
 have hb:((s.data[0]?.getD 0).toNat:Int)=vC s 0:=rfl
 refine aP (aH (cfg:=⟨fun t=>t==4,fun r=>match r with|22=>[(7,10),(8,10),(9,10)]|_=>[]⟩) Tz.mixed Tryz.func388 rfl rfl (aE rfl) (by kernel_rfl) ?_)
 simp [go_sem,seval,dI,hb]
 refine ⟨by omega,aC (AR _) rfl ?_⟩
 simp [go_sem,seval,dI]
 refine aN (fun _=>rU _) (fun _=>rfl) ?_
 simp [go_sem,seval,dI]
 refine aJ (fun hld=>?_) (fun hld=>?_)
 ·simp [go_sem,seval]
  refine aC (rU _) rfl ?_
  simp [go_sem,seval]
  refine aC (Qf s _ (by omega)) rfl ?_
  simp [go_sem,seval,dI]
  refine aC (rU _) rfl ?_
  simp [go_sem,seval]
  refine aJ (fun hd=>?_) (fun hd=>?_)
  ·simp [go_sem,seval]
   rw [hd]
   have hr:=BT (tH true) s
   refine aJ (fun h=>?_) (fun h=>?_)
   ·simp at h
    simp [go_sem,seval,yV,hd,show 9<fQ (tH true) s by omega]
   ·simp at h
    simp [go_sem,seval,yV,hd,show ¬ 9<fQ (tH true) s by omega]
    exact ⟨c3 (by omega) (by omega),by omega⟩
  ·have hd':i9 (vC s 0)=false:=by simpa using hd
   simp [go_sem,seval]
   rw [hd']
   have hr:=BT (tH false) s
   have hl:gZ (vC s 0)=true:=by simpa [hd'] using hld
   refine aJ (fun h=>?_) (fun h=>?_)
   ·simp at h
    simp [go_sem,seval,yV,hd',hl,show 20<fQ (tH false) s by omega]
   ·simp at h
    simp [go_sem,seval,yV,hd',hl,show ¬ 20<fQ (tH false) s by omega]
    exact ⟨c3 (by omega) (by omega),by omega⟩
 ·have hld':¬ (gZ (vC s 0)||i9 (vC s 0))=true:=by simp at hld;simp [hld]
  simp [go_sem,seval]
  refine aJ (fun h34=>?_) (fun h34=>?_)
  ·simp at h34
   simp [go_sem,seval]
   refine aC hq rfl ?_
   simp [go_sem,seval,dI]
   have e:yV q s=(if q=0 then (0,⟨#[]⟩,0,2) else if 60<q - 2 then (0,⟨#[]⟩,0,3) else (3,s.extract 1 (q - 1).toNat,q,0)):=by
    unfold yV;rw [if_neg hld',if_pos h34]
   rw [e]
   refine aJ (fun hz=>?_) (fun hz=>?_)
   ·simp at hz
    simp [go_sem,seval,hz]
   ·simp at hz
    simp [go_sem,seval,hz]
    refine ⟨c3 (by omega) (by omega),eZ (fun h6=>?_) (fun h6=>?_)⟩
    ·simp [go_sem,seval,h6]
    ·simp [go_sem,seval,h6]
     exact ⟨c3 (by omega) (by omega),c3 (by omega) (by omega),c3 (by omega) (by omega),by omega,by omega⟩
  ·simp at h34
   simp [go_sem,seval]
   refine aC LD rfl ?_
   simp [go_sem,seval,dI]
   have e:yV q s=(match signs.find? (uP s) with|some l=>(4,l,l.size,0)|none=>(0,⟨#[]⟩,0,2)):=by
    unfold yV;rw [if_neg hld',if_neg h34]
   rw [e]
   refine eO (ι:=Nat) (fun n e H=>(∃ ty,H.get 0=some ⟨ty,3,[[dI 0,.str ⟨#[]⟩,dI 0]],false⟩)∧n≤signs.length∧e 0=.str s∧e 1=dI 0∧e 4=.ptr 0 1 0 0∧e 12=o8 signs∧e 13=dI n∧(∀ j l,j<n→signs[j]?=some l→uP s l=false)) (fun n=>signs.length - n) 0 (by simp [go_sem,seval,dI]) ?_
   intro n e H ⟨⟨ty,hH⟩,hn,h0,h1',h4,h12,h13,hp⟩
   simp [go_sem,seval,h0,h1',h4,h12,h13,dI,hH,o8]
   intro hlen
   refine eZ (fun hlt=>?_) (fun hge=>?_)
   ·simp [go_sem,seval,h0,h1',h4,h12,h13,dI,hH,o8,hlt,cS]
    have hz2:signs[n].size≤2:=(show ∀ l∈signs,l.size≤2 by decide) _ (aB hlt)
    refine ⟨c3 (by omega) (by omega),fun _=>c3 (by omega) (by omega),aJ (fun hc=>?_) (fun hc=>?_)⟩
    ·have hs1:uP s signs[n]=true:=by simpa [uP] using hc
     have hf:signs.find? (uP s)=some signs[n]:=by
      rw [List.find?_eq_some_iff_getElem]
      refine ⟨hs1,n,hlt,rfl,fun j hj=>?_⟩
      simpa using hp j _ hj (aA (by omega))
     simp [go_sem,seval,h0,h1',h4,h12,h13,dI,hH,o8,hlt,cS,hf]
    ·have hs1:uP s signs[n]=false:=by simpa [uP] using hc
     simp [go_sem,seval,h0,h1',h4,h12,h13,dI,hH,o8]
     have hsl:signs.length=25:=rfl
     refine ⟨c3 (by omega) (by omega),n+1,by omega,by omega,by omega,fun j l hj hl=>?_⟩
     rcases b8 j n with hj'|hj'
     ·exact hp j l hj' hl
     ·have:j=n:=by omega
      subst this
      rw [aA hlt] at hl
      cases hl;exact hs1
   ·simp [go_sem,seval,h0,h1',h4,h12,h13,dI,hH,o8]
    have:signs.find? (uP s)=none:=by
     rw [List.find?_eq_none]
     intro x hx
     obtain ⟨j,hj,rfl⟩:=aT hx
     simpa using hp j _ (by omega) (aA hj)
    simp [this]
theorem RN (s:ByteArray)(hz:¬ s.size=0)(q:Int):(decide ((yV q s).2.2.2=0)&&(yV q s).2.2.1==(s.size:Int)&&(yV q s).1==1)=j9 s:=by
 unfold yV j9
 by_cases hl:gZ (vC s 0)=true
 ·have hdg:i9 (vC s 0)=false:=by simp [gZ,i9] at *;omega
  rw [if_pos (by simp [hl])]
  simp only [hdg,hl,Ny]
  by_cases h:20<fQ mY s
  ·simp [h];intros;omega
  ·simp [h,hz,show fQ mY s≤20 by omega]
   rw [aY];simp;omega
 ·have hl':gZ (vC s 0)=false:=by simpa using hl
  simp only [hl']
  repeat' split
  all_goals first|(simp;done)|(simp_all;done)
theorem LE (s:ByteArray)(hs:s.size≤100000):Pure Tryz.prog 333 [.agg [dI 1,.str s,dI 0]] (.bool (j9 s)):=by
 by_cases hz:s.size=0
 ·refine aP (aH (cfg:=⟨fun t=>t==4,fun _=>[]⟩) Tz.mixed Tryz.func333 rfl rfl (aE rfl) (by kernel_rfl) ?_)
  simp [go_sem,seval,dI]
  refine aC (EU s) rfl ?_
  simp [go_sem,seval,dI]
  refine aJ (fun h=>?_) (fun h=>?_)
  ·simp [go_sem,seval,j9,hz]
  ·simp [n7,hz] at h
 ·obtain ⟨q,hq0,hq1,hq2,hq⟩:=JK s (by omega) (by omega)
  refine aP (aH (cfg:=⟨fun t=>t==4,fun _=>[]⟩) Tz.mixed Tryz.func333 rfl rfl (aE rfl) (by kernel_rfl) ?_)
  simp [go_sem,seval,dI]
  refine aC (EU s) rfl ?_
  simp [go_sem,seval,dI]
  refine aJ (fun h=>?_) (fun h=>?_)
  ·simp [n7,hz] at h
  ·simp [go_sem,seval]
   refine aC (Qg s (by omega) hs q hq0 hq1 hq2 hq) rfl ?_
   simp [go_sem,seval,dI]
   exact RN s hz q
theorem mS (s:ByteArray)(hs:s.size≤100000):Pure Tryz.prog 237 [.str s] (.bool (j9 s)):=by
 refine aP (aH (cfg:=⟨fun _=>false,fun _=>[]⟩) Tz.mixed Tryz.func237 rfl rfl (aE rfl) (by kernel_rfl) ?_)
 simp [go_sem,seval,dI]
 refine aC (LE s hs) rfl ?_
 simp [go_sem,seval,dI]
def Af {α:Type}(xs:List α)(p:α→Bool):Int:=match xs.findIdx? p with|some i=>i|none=>-1
theorem k9 {α:Type}{xs:List α}{p:α→Bool}{i:Nat}(h:∀ j x,j<i→xs[j]?=some x→p x=false)(hi:i<xs.length)(hp:p xs[i]=true):Af xs p=i:=by
 have:xs.findIdx? p=some i:=by
  rw [gU]
  exact ⟨hi,hp,fun j hj=>by simp [h j _ hj (aA (by omega))]⟩
 simp [Af,this]
theorem lA {α:Type}{xs:List α}{p:α→Bool}(h:∀ j x,j<xs.length→xs[j]?=some x→p x=false):Af xs p = -1:=by
 have:xs.findIdx? p=none:=by
  rw [p7]
  intro x hx
  obtain ⟨j,hj,rfl⟩:=aT hx
  exact h j _ hj (aA hj)
 simp [Af,this]
theorem mZ {α:Type}(xs:List α)(p:α→Bool):decide (0≤Af xs p)=xs.any p:=by
 unfold Af
 cases h:xs.findIdx? p with
 | none =>
  rw [p7] at h
  have:xs.any p=false:=by simpa using h
  simp [this]
 | some i =>
  rw [gU] at h
  obtain ⟨hi,hv,_⟩:=h
  have:xs.any p=true:=List.any_eq_true.2 ⟨xs[i],aB hi,hv⟩
  simp [this]
theorem FG (xs:List Attr)(g:FuncId)(caps:List D)(p:Attr→Bool)(hc:D.clL caps=true)(hg:∀ x∈xs,Pure Tryz.prog g (.agg x.c :: caps) (.bool (p x))) :
  Pure Tryz.prog 395 [.list (xs.map Attr.c),.fn g caps] (dI (Af xs p)):=by
 refine aP (aH (cfg:=⟨fun _=>false,fun _=>[]⟩) Tz.mixed Tryz.func395 rfl rfl (aE rfl) (by kernel_rfl) ?_)
 simp [go_sem,seval,dI,dLI]
 intro hlen
 refine eO (ι:=Nat) (fun i e H=>H=.emp∧i≤xs.length∧e 0=.list (xs.map Attr.c)∧e 1=.fn g caps∧e 7=dI xs.length∧e 8=dI i∧(∀ j x,j<i→xs[j]?=some x→p x=false)) (fun i=>xs.length - i) 0 (by simp [go_sem,seval,dI,dLI]) ?_
 intro i e H ⟨hH,hi,h0,h1,h7,h8,hn⟩
 subst hH
 simp [go_sem,seval,h0,h1,h7,h8,dI,dLI]
 refine eZ (fun hlt=>?_) (fun hge=>?_)
 ·have hgx:=hg xs[i] (aB hlt)
  simp [go_sem,seval,h0,h1,h7,h8,dI,dLI,hlt,Attr.c] at hgx ⊢
  refine aC hgx (by simp [go_sem,hc]) ?_
  simp [go_sem,seval,h0,h1,h7,h8,dI,dLI]
  refine aJ (fun h=>?_) (fun h=>?_)
  ·simp [go_sem,seval,h0,h1,h7,h8,dI,dLI]
   rw [k9 hn hlt h]
  ·simp [go_sem,seval,h0,h1,h7,h8,dI,dLI]
   refine ⟨c3 (by omega) (by omega),i+1,by omega,by omega,by omega,fun j x hj hx=>?_⟩
   rcases b8 j i with hj'|hj'
   ·exact hn j x hj' hx
   ·have:j=i:=by omega
    subst this
    rw [aA hlt] at hx
    cases hx;exact h
 ·simp [go_sem,seval,h0,h1,h7,h8,dI,dLI]
  rw [lA fun j x hj=>hn j x (by omega)]
theorem Bt (xs:List Attr)(g:FuncId)(caps:List D)(p:Attr→Bool)(hc:D.clL caps=true)(hl:D.cl (.list (xs.map Attr.c))=true)(hg:∀ x∈xs,Pure Tryz.prog g (.agg x.c :: caps) (.bool (p x))) :
  Pure Tryz.prog 342 [.list (xs.map Attr.c),.fn g caps] (.bool (xs.any p)):=by
 refine aP (aH (cfg:=⟨fun _=>false,fun _=>[]⟩) Tz.mixed Tryz.func342 rfl rfl (aE rfl) (by kernel_rfl) ?_)
 simp [go_sem,seval]
 refine aC (FG xs g caps p hc hg) (by simp only [D.clL,hl,dU];simp [D.cl,hc]) ?_
 simp [go_sem,seval,dI,mZ]
theorem q7 (l:List Attr):D.clLL (l.map Attr.c)=true:=dA _ Attr.cl l
def jW (l:List ByteArray):List ByteArray→Int
 | []=>0
 | s :: r=>if j9 s=false then 2 else if mem l s=true then 5 else jW (l++[s]) r
def kR (l:List ByteArray):Int:=if 20<l.length then 3 else jW [] l
theorem KI (l:List ByteArray)(hs:∀ s∈l,s.size≤100000):Pure Tryz.prog 344 [o8 l] (dI (kR l)):=by
 refine aP (aH (cfg:=⟨fun _=>false,fun _=>[]⟩) Tz.mixed Tryz.func344 rfl rfl (aE rfl) (by kernel_rfl) ?_)
 simp [go_sem,seval,dI,o8]
 intro hlen
 refine aJ (fun h=>?_) (fun h=>?_)
 ·simp at h
  simp [go_sem,seval,kR,show 20<l.length by omega]
 ·simp at h
  simp [go_sem,seval,kR,show ¬ 20<l.length by omega]
  intro hlen2
  refine eO (ι:=Nat) (fun i e H=>H=.emp∧i≤l.length∧e 0=o8 l∧e 8=o8 l∧e 9=dI l.length∧e 10=dI i∧jW (l.take i) (l.drop i)=jW [] l) (fun i=>l.length - i) 0 (by simp [go_sem,seval,dI,o8]) ?_
  intro i e H ⟨hH,hi,h0,h8,h9,h10,hn⟩
  subst hH
  simp [go_sem,seval,h0,h8,h9,h10,dI,o8]
  refine eZ (fun hlt=>?_) (fun hge=>?_)
  ·rw [cX hlt] at hn
   have hsz:=hs _ (aB hlt)
   simp [go_sem,seval,h0,h8,h9,h10,dI,o8,hlt,cS]
   refine aC (mM _ hsz) rfl ?_
   simp [go_sem,seval]
   refine aJ (fun hc=>?_) (fun hc=>?_)
   ·simp at hc
    simp [go_sem,seval]
    rw [← hn];simp [jW,hc]
   ·simp at hc
    simp [go_sem,seval,h0,h8,h9,h10,dI,o8]
    have hcs:=Bn (l.take i) l[i]
    simp only [o8,List.map_take] at hcs
    have hcl:D.clLL (List.take i (List.map cS l))=true:=by rw [← List.map_take];exact dA cS (fun _=>rfl) _
    refine ⟨⟨hi,by cases l<;>simp [cS]⟩,aC hcs (by simp [D.clL,D.cl,hcl]) ?_⟩
    simp [go_sem,seval,h0,h8,h9,h10,dI,o8]
    refine aJ (fun hm=>?_) (fun hm=>?_)
    ·simp [go_sem,seval]
     rw [← hn];simp [jW,hc,hm]
    ·simp [go_sem,seval,h0,h8,h9,h10,dI,o8]
     refine ⟨c3 (by omega) (by omega),i+1,by omega,by omega,by omega,?_⟩
     rw [← hn,jW,if_neg (by simp [hc]),if_neg (by simp [hm]),aF hlt]
  ·simp [go_sem,seval,h0,h8,h9,h10,dI,o8]
   rw [← hn,show i=l.length by omega];simp [jW]
theorem BJ (x y:Attr):Pure Tryz.prog 343 [.agg y.c,.adr x.c] (.bool (decide (y.name=x.name))):=by
 refine aP (aH (cfg:=⟨fun _=>false,fun _=>[]⟩) Tz.mixed Tryz.func343 rfl rfl (aE rfl) (by kernel_rfl) ?_)
 simp [go_sem,seval,Attr.c,dI,o8]
structure Attr.ok (x:Attr):Prop where
 name:x.name.size≤100000
 names:∀ s∈x.names,s.size≤100000
 few:x.names.length≤1000
def c8 (x:Attr)(before:List Attr):Int :=
 if j9 x.name=false then 2
 else if (before.any fun y=>decide (y.name=x.name))=true then 5
 else if kR x.names≠0 then kR x.names
 else if (if 0<x.names.length then decide (x.low=0)&&decide (x.high=x.names.length - 1) else decide (-1000000≤x.low)&&decide (x.low≤x.high)&&decide (x.high≤1000000))=true then 0 else 6
theorem DH (x:Attr)(before:List Attr)(hx:x.ok):Pure Tryz.prog 255 [.agg x.c,.list (before.map Attr.c)] (dI (c8 x before)):=by
 refine aP (aH (cfg:=⟨fun _=>false,fun _=>[]⟩) Tz.mixed Tryz.func255 rfl rfl (aE rfl) (by kernel_rfl) ?_)
 simp [go_sem,seval,dI,o8,Attr.c]
 refine aC (mM _ hx.name) rfl ?_
 simp [go_sem,seval]
 refine aJ (fun hn=>?_) (fun hn=>?_)
 ·simp at hn
  simp [go_sem,seval,c8,hn]
 ·simp at hn
  simp [go_sem,seval]
  have hc:=Bt before 343 [.adr x.c] (fun y=>decide (y.name=x.name)) (by simp [D.clL,D.cl,Attr.cl]) (by simp [D.cl,q7]) (fun y _=>BJ x y)
  simp only [Attr.c,dI,o8] at hc
  have hcS:D.clLL (List.map cS x.names)=true:=dA cS (fun _=>rfl) _
  refine aC hc (by simp [D.clL,D.cl,q7,hcS]) ?_
  simp [go_sem,seval]
  refine aJ (fun hb=>?_) (fun hb=>?_)
  ·simp [go_sem,seval,c8,hn,hb]
  ·simp [go_sem,seval]
   have hnm:=KI x.names hx.names
   simp only [o8,dI] at hnm
   refine aC hnm (by simp [D.clL,D.cl,hcS]) ?_
   simp [go_sem,seval]
   have hfew:=hx.few
   refine aJ (fun hz=>?_) (fun hz=>?_)
   ·simp at hz
    simp [go_sem,seval,c8,hn,hb,hz]
   ·simp at hz
    simp [go_sem,seval]
    intro hlen
    refine aJ (fun hp=>?_) (fun hp=>?_)
    ·have hp':0<x.names.length:=by simp at hp;omega
     simp [go_sem,seval]
     refine fun _=>⟨fun _=>c3 (by omega) (by omega),aJ (fun ho=>?_) (fun ho=>?_)⟩
     ·have e:c8 x before=6:=by unfold c8;rw [if_neg (by simp [hn]),if_neg (by simp [hb]),if_neg (by simp [hz]),if_pos hp',if_neg (by simp at ho ⊢;omega)]
      simp [go_sem,seval,e]
     ·have e:c8 x before=0:=by unfold c8;rw [if_neg (by simp [hn]),if_neg (by simp [hb]),if_neg (by simp [hz]),if_pos hp',if_pos (by simp at ho ⊢;omega)]
      simp [go_sem,seval,e]
    ·have hp':¬ 0<x.names.length:=by simp at hp;simp [hp]
     simp [go_sem,seval]
     refine aJ (fun ho=>?_) (fun ho=>?_)
     ·have e:c8 x before=6:=by unfold c8;rw [if_neg (by simp [hn]),if_neg (by simp [hb]),if_neg (by simp [hz]),if_neg hp',if_neg (by simp at ho ⊢;omega)]
      simp [go_sem,seval,e]
     ·have e:c8 x before=0:=by unfold c8;rw [if_neg (by simp [hn]),if_neg (by simp [hb]),if_neg (by simp [hz]),if_neg hp',if_pos (by simp at ho ⊢;omega)]
      simp [go_sem,seval,e]
structure NodeTy.ok (n:NodeTy):Prop where
 name:n.name.size≤100000
 attrs:∀ x∈n.attrs,x.ok
 few:n.attrs.length≤1000
structure EdgeTy.ok (x:EdgeTy):Prop where
 name:x.name.size≤100000
structure Types.ok (t:Types):Prop where
 nodes:∀ n∈t.nodes,n.ok
 edges:∀ x∈t.edges,x.ok
 fewN:t.nodes.length≤1000
 fewE:t.edges.length≤1000
def iI (nodes:List NodeTy):Nat→Nat→List Attr
 | 0,_=>[]
 | f+1,a=>match nodes[a]? with
  | none=>[]
  | some n=>(if 0≤n.parent then iI nodes f n.parent.toNat else [])++n.attrs
def Types.attrs (t:Types)(a:Nat):List Attr:=iI t.nodes (a+1) a
theorem q8 (nodes:List NodeTy)(h:∀ n∈nodes,n.attrs.length≤1000):∀ f a,(iI nodes f a).length≤1000 * f
 | 0,a=>by simp [iI]
 | f+1,a=>by
  unfold iI
  split
  ·simp
  ·rename_i n hn
   have:=h n (aK hn)
   have h2:=q8 nodes h f n.parent.toNat
   simp only [aG]
   split<;>simp<;>omega
@[go_sem] theorem Attr.len (a:Attr):a.c.length=4:=rfl
theorem Attr.cells (a:Attr):∀ x∈a.c,x.cell=true:=by simp [Attr.c,D.cell,dI,o8]
def parentsOK (nodes:List NodeTy)(a:Nat):Prop:=∀ j n,j≤a→nodes[j]?=some n→n.parent<j
theorem Dv (nodes:List NodeTy):∀ a f g,parentsOK nodes a→a<f→a<g→iI nodes f a=iI nodes g a:=by
 intro a
 induction a using Nat.strongRecOn with
 | _ a ih =>
  intro f g hp hf hg
  obtain ⟨f,rfl⟩:∃ f',f=f'+1:=⟨f - 1,by omega⟩
  obtain ⟨g,rfl⟩:∃ g',g=g'+1:=⟨g - 1,by omega⟩
  unfold iI
  split
  ·rfl
  ·rename_i n hn
   have:=hp a n (bQ _) hn
   congr 1
   split
   ·exact ih n.parent.toNat (by omega) f g (fun j m hj hm=>hp j m (by omega) hm) (by omega) (by omega)
   ·rfl
theorem CU (t:Types)(ht:t.ok):∀ a,a<t.nodes.length→parentsOK t.nodes a→Own Tryz.prog 254 [t.d,dI a] 186 4 ((t.attrs a).map Attr.c):=by
 intro a
 induction a using Nat.strongRecOn with
 | _ a ih =>
  intro ha hp
  have hpa:=hp a _ (bQ _) (aA ha)
  have hlen:=q8 t.nodes (fun n hn=>(ht.nodes n hn).few) (a+1) a
  have hfew:=ht.fewN
  have hna:=(ht.nodes _ (aB ha)).few
  refine AW (aH (cfg:=⟨fun t=>t==5,fun _=>[]⟩) Tz.mixed Tryz.func254 rfl rfl (aE rfl) (by kernel_rfl) ?_)
  simp [go_sem,seval,dI,Types.d,Types.c,NodeTy.c,aA ha,ha]
  refine aJ (fun h=>?_) (fun h=>?_)
  ·have h':0≤t.nodes[a].parent:=by simpa using h
   have hlt:t.nodes[a].parent.toNat<a:=by omega
   have hc:=ih _ hlt (by omega) (fun j m hj hm=>hp j m (by omega) hm)
   rw [Int.toNat_of_nonneg h'] at hc
   have e:t.attrs a=t.attrs t.nodes[a].parent.toNat++t.nodes[a].attrs:=by
    have:=Dv t.nodes t.nodes[a].parent.toNat a (t.nodes[a].parent.toNat+1) (fun j m hj hm=>hp j m (by omega) hm) hlt (by omega)
    simp [Types.attrs,iI,aA ha,h',this]
   have hlen2:=q8 t.nodes (fun n hn=>(ht.nodes n hn).few) (t.nodes[a].parent.toNat+1) t.nodes[a].parent.toNat
   have hl3:(t.attrs t.nodes[a].parent.toNat).length≤2000000:=by
    have:(t.attrs t.nodes[a].parent.toNat).length≤1000 * (t.nodes[a].parent.toNat+1):=hlen2
    omega
   simp [go_sem,seval,dI,Types.d,Types.c,NodeTy.c,aA ha,ha] at hc ⊢
   refine l5 hc (by simp [D.clL,D.cl,dA _ NodeTy.cl,dA _ EdgeTy.cl]) ?_
   simp [go_sem,seval,dI,Types.d,Types.c,NodeTy.c,aA ha,ha,e,q7]
   exact ⟨⟨by omega,fun x _ y hy=>Attr.cells x y hy⟩,by rw [← List.map_append];exact q7 _⟩
  ·have h':¬ 0≤t.nodes[a].parent:=by simpa using h
   have e:t.attrs a=t.nodes[a].attrs:=by simp [Types.attrs,iI,aA ha,h']
   simp [go_sem,seval,dI,Types.d,Types.c,NodeTy.c,aA ha,ha,e,q7]
   exact ⟨by omega,fun x _ y hy=>Attr.cells x y hy⟩
attribute [go_sem] q7
@[go_sem] theorem Xm (l:List ByteArray):D.clLL (l.map cS)=true:=dA cS (fun _=>rfl) l
theorem FC (xs:List NodeTy)(g:FuncId)(caps:List D)(p:NodeTy→Bool)(hc:D.clL caps=true)(hg:∀ x∈xs,Pure Tryz.prog g (.agg x.c :: caps) (.bool (p x))) :
  Pure Tryz.prog 341 [.list (xs.map NodeTy.c),.fn g caps] (dI (Af xs p)):=by
 refine aP (aH (cfg:=⟨fun _=>false,fun _=>[]⟩) Tz.mixed Tryz.func341 rfl rfl (aE rfl) (by kernel_rfl) ?_)
 simp [go_sem,seval,dI,dLI]
 intro hlen
 refine eO (ι:=Nat) (fun i e H=>H=.emp∧i≤xs.length∧e 0=.list (xs.map NodeTy.c)∧e 1=.fn g caps∧e 7=dI xs.length∧e 8=dI i∧(∀ j x,j<i→xs[j]?=some x→p x=false)) (fun i=>xs.length - i) 0 (by simp [go_sem,seval,dI,dLI]) ?_
 intro i e H ⟨hH,hi,h0,h1,h7,h8,hn⟩
 subst hH
 simp [go_sem,seval,h0,h1,h7,h8,dI,dLI]
 refine eZ (fun hlt=>?_) (fun hge=>?_)
 ·have hgx:=hg xs[i] (aB hlt)
  simp [go_sem,seval,h0,h1,h7,h8,dI,dLI,hlt,NodeTy.c] at hgx ⊢
  refine aC hgx (by simp [go_sem,hc]) ?_
  simp [go_sem,seval,h0,h1,h7,h8,dI,dLI]
  refine aJ (fun h=>?_) (fun h=>?_)
  ·simp [go_sem,seval,h0,h1,h7,h8,dI,dLI]
   rw [k9 hn hlt h]
  ·simp [go_sem,seval,h0,h1,h7,h8,dI,dLI]
   refine ⟨c3 (by omega) (by omega),i+1,by omega,by omega,by omega,fun j x hj hx=>?_⟩
   rcases b8 j i with hj'|hj'
   ·exact hn j x hj' hx
   ·have:j=i:=by omega
    subst this
    rw [aA hlt] at hx
    cases hx;exact h
 ·simp [go_sem,seval,h0,h1,h7,h8,dI,dLI]
  rw [lA fun j x hj=>hn j x (by omega)]
theorem Bq (xs:List NodeTy)(g:FuncId)(caps:List D)(p:NodeTy→Bool)(hc:D.clL caps=true)(hl:D.cl (.list (xs.map NodeTy.c))=true)(hg:∀ x∈xs,Pure Tryz.prog g (.agg x.c :: caps) (.bool (p x))) :
  Pure Tryz.prog 252 [.list (xs.map NodeTy.c),.fn g caps] (.bool (xs.any p)):=by
 refine aP (aH (cfg:=⟨fun _=>false,fun _=>[]⟩) Tz.mixed Tryz.func252 rfl rfl (aE rfl) (by kernel_rfl) ?_)
 simp [go_sem,seval]
 refine aC (FC xs g caps p hc hg) (by simp only [D.clL,hl,dU];simp [D.cl,hc]) ?_
 simp [go_sem,seval,dI,mZ]
theorem FE (xs:List EdgeTy)(g:FuncId)(caps:List D)(p:EdgeTy→Bool)(hc:D.clL caps=true)(hg:∀ x∈xs,Pure Tryz.prog g (.agg x.c :: caps) (.bool (p x))) :
  Pure Tryz.prog 345 [.list (xs.map EdgeTy.c),.fn g caps] (dI (Af xs p)):=by
 refine aP (aH (cfg:=⟨fun _=>false,fun _=>[]⟩) Tz.mixed Tryz.func345 rfl rfl (aE rfl) (by kernel_rfl) ?_)
 simp [go_sem,seval,dI,dLI]
 intro hlen
 refine eO (ι:=Nat) (fun i e H=>H=.emp∧i≤xs.length∧e 0=.list (xs.map EdgeTy.c)∧e 1=.fn g caps∧e 7=dI xs.length∧e 8=dI i∧(∀ j x,j<i→xs[j]?=some x→p x=false)) (fun i=>xs.length - i) 0 (by simp [go_sem,seval,dI,dLI]) ?_
 intro i e H ⟨hH,hi,h0,h1,h7,h8,hn⟩
 subst hH
 simp [go_sem,seval,h0,h1,h7,h8,dI,dLI]
 refine eZ (fun hlt=>?_) (fun hge=>?_)
 ·have hgx:=hg xs[i] (aB hlt)
  simp [go_sem,seval,h0,h1,h7,h8,dI,dLI,hlt,EdgeTy.c] at hgx ⊢
  refine aC hgx (by simp [go_sem,hc]) ?_
  simp [go_sem,seval,h0,h1,h7,h8,dI,dLI]
  refine aJ (fun h=>?_) (fun h=>?_)
  ·simp [go_sem,seval,h0,h1,h7,h8,dI,dLI]
   rw [k9 hn hlt h]
  ·simp [go_sem,seval,h0,h1,h7,h8,dI,dLI]
   refine ⟨c3 (by omega) (by omega),i+1,by omega,by omega,by omega,fun j x hj hx=>?_⟩
   rcases b8 j i with hj'|hj'
   ·exact hn j x hj' hx
   ·have:j=i:=by omega
    subst this
    rw [aA hlt] at hx
    cases hx;exact h
 ·simp [go_sem,seval,h0,h1,h7,h8,dI,dLI]
  rw [lA fun j x hj=>hn j x (by omega)]
theorem Br (xs:List EdgeTy)(g:FuncId)(caps:List D)(p:EdgeTy→Bool)(hc:D.clL caps=true)(hl:D.cl (.list (xs.map EdgeTy.c))=true)(hg:∀ x∈xs,Pure Tryz.prog g (.agg x.c :: caps) (.bool (p x))) :
  Pure Tryz.prog 257 [.list (xs.map EdgeTy.c),.fn g caps] (.bool (xs.any p)):=by
 refine aP (aH (cfg:=⟨fun _=>false,fun _=>[]⟩) Tz.mixed Tryz.func257 rfl rfl (aE rfl) (by kernel_rfl) ?_)
 simp [go_sem,seval]
 refine aC (FE xs g caps p hc hg) (by simp only [D.clL,hl,dU];simp [D.cl,hc]) ?_
 simp [go_sem,seval,dI,mZ]
@[go_sem] theorem tT (l:List NodeTy):D.clLL (l.map NodeTy.c)=true:=dA _ NodeTy.cl l
@[go_sem] theorem t7 (l:List EdgeTy):D.clLL (l.map EdgeTy.c)=true:=dA _ EdgeTy.cl l
theorem KH (x y:NodeTy):Pure Tryz.prog 253 [.agg y.c,.adr x.c] (.bool (decide (y.name=x.name))):=by
 refine aP (aH (cfg:=⟨fun _=>false,fun _=>[]⟩) Tz.mixed Tryz.func253 rfl rfl (aE rfl) (by kernel_rfl) ?_)
 simp [go_sem,seval,NodeTy.c,dI,o8]
theorem uE (nodes:List NodeTy)(h:∀ n∈nodes,n.ok):∀ f a,∀ x∈iI nodes f a,x.ok
 | 0,a,x,hx=>by simp [iI] at hx
 | f+1,a,x,hx=>by
  unfold iI at hx
  split at hx
  ·simp at hx
  ·rename_i n hn
   rcases bD.1 hx with hx|hx
   ·split at hx
    ·exact uE nodes h f _ x hx
    ·simp at hx
   ·exact (h n (aK hn)).attrs x hx
def b9 (f:Nat→Int):Nat→Nat→Int
 | _,0=>0
 | k,n+1=>if f k≠0 then f k else b9 f (k+1) n
def fY (t:Types)(i:Nat):Int :=
 match t.nodes[i]? with
 | none=>0
 | some n =>
  if j9 n.name=false then 2
  else if ((t.nodes.take i).any fun m=>decide (m.name=n.name))=true then 5
  else if (decide (n.parent < -1)||decide ((i:Int)≤n.parent))=true then 6
  else if 4<n.attrs.length then 3
  else if 8<(t.attrs i).length then 3
  else b9 (fun k=>match (t.attrs i)[k]? with|some x=>c8 x ((t.attrs i).take k)|none=>0) ((t.attrs i).length - n.attrs.length) n.attrs.length
theorem Nd (t:Types)(ht:t.ok)(i:Nat)(hi:i<t.nodes.length)(hp:∀ j n,j<i→t.nodes[j]?=some n→n.parent<j):Pure Tryz.prog 155 [t.d,dI i] (dI (fY t i)):=by
 have hno:=ht.nodes _ (aB hi)
 refine aP (aH (cfg:=⟨fun t=>t==5,fun _=>[]⟩) Tz.mixed Tryz.func155 rfl rfl (aE rfl) (by kernel_rfl) ?_)
 simp [go_sem,seval,dI,Types.d,Types.c,NodeTy.c,aA hi,hi]
 refine aC (mM _ hno.name) rfl ?_
 simp [go_sem,seval]
 refine aJ (fun hn=>?_) (fun hn=>?_)
 ·simp at hn
  simp [go_sem,seval,fY,aA hi,hn]
 ·simp at hn
  simp [go_sem,seval]
  have hc:=Bq (t.nodes.take i) 253 [.adr t.nodes[i].c] (fun y=>decide (y.name=t.nodes[i].name)) (by simp [D.clL,D.cl,NodeTy.cl]) (by rw [D.cl];exact tT _) (fun y _=>KH t.nodes[i] y)
  refine ⟨⟨by omega,by cases t.nodes<;>simp [NodeTy.c]⟩,mA hc (by simp [sP,tI,eD,go_sem,NodeTy.c,dI,List.map_take]) (by simp only [D.clL,D.cl,tT,NodeTy.cl];rfl) rfl ?_⟩
  simp [go_sem,seval]
  refine aJ (fun hb=>?_) (fun hb=>?_)
  ·simp [go_sem,seval,fY,aA hi,hn,hb]
  ·simp [go_sem,seval,NodeTy.c,dI]
   refine aJ (fun hr=>?_) (fun hr=>?_)
   ·have hr':(decide (t.nodes[i].parent < -1)||decide ((i:Int)≤t.nodes[i].parent))=true:=by simpa using hr
    simp [go_sem,seval]
    have e:fY t i=6:=by simp only [fY,aA hi];rw [if_neg (by simp [hn]),if_neg (by simp [hb]),if_pos hr']
    simp [e]
   ·simp at hr
    simp [go_sem,seval]
    have hr':¬ (decide (t.nodes[i].parent < -1)||decide ((i:Int)≤t.nodes[i].parent))=true:=by simp;omega
    intro hlen
    refine aJ (fun h4=>?_) (fun h4=>?_)
    ·have h4':4<t.nodes[i].attrs.length:=by simp at h4;omega
     simp [go_sem,seval]
     have e:fY t i=3:=by simp only [fY,aA hi];rw [if_neg (by simp [hn]),if_neg (by simp [hb]),if_neg hr',if_pos h4']
     simp [e]
    ·have h4':¬ 4<t.nodes[i].attrs.length:=by simp at h4;omega
     simp [go_sem,seval]
     have hpo:parentsOK t.nodes i:=fun j n hj hn'=>by
      rcases b8 j i with h|h
      ·exact hp j n h hn'
      ·have:j=i:=by omega
       subst this
       rw [aA hi] at hn'
       cases hn';omega
     have hat:=CU t ht i hi hpo
     simp only [Types.d,Types.c,dI] at hat
     refine aC hat.pure (by simp [D.clL,D.cl,tT,t7]) ?_
     simp [go_sem,seval,NodeTy.c,dI]
     intro hlen2
     refine aJ (fun h8=>?_) (fun h8=>?_)
     ·have h8':8<(t.attrs i).length:=by simp at h8;omega
      simp [go_sem,seval]
      have e:fY t i=3:=by simp only [fY,aA hi];rw [if_neg (by simp [hn]),if_neg (by simp [hb]),if_neg hr',if_neg h4',if_pos h8']
      simp [e]
     ·have h8':¬ 8<(t.attrs i).length:=by simp at h8;omega
      have e:fY t i=b9 (fun k=>match (t.attrs i)[k]? with|some x=>c8 x ((t.attrs i).take k)|none=>0) ((t.attrs i).length - t.nodes[i].attrs.length) t.nodes[i].attrs.length:=by
       simp only [fY,aA hi];rw [if_neg (by simp [hn]),if_neg (by simp [hb]),if_neg hr',if_neg h4',if_neg h8']
      have hle:t.nodes[i].attrs.length≤(t.attrs i).length:=by simp [Types.attrs,iI,aA hi]
      have hok:∀ x∈t.attrs i,x.ok:=uE t.nodes ht.nodes _ _
      simp [go_sem,seval,NodeTy.c,dI]
      refine fun _ _=>⟨c3 (by omega) (by omega),?_⟩
      refine eO (ι:=Nat) (fun k e H=>k≤(t.attrs i).length∧e 6=.list ((t.attrs i).map Attr.c)∧e 7=dI k ∧
       b9 (fun k=>match (t.attrs i)[k]? with|some x=>c8 x ((t.attrs i).take k)|none=>0) k ((t.attrs i).length - k)=fY t i) (fun k=>(t.attrs i).length - k) ((t.attrs i).length - t.nodes[i].attrs.length) ?_ ?_
      ·simp [go_sem,seval,dI]
       refine ⟨by omega,?_⟩
       rw [e];congr 1;omega
      ·intro k e' H ⟨hk,h6,h7,hF⟩
       simp [go_sem,seval,h6,h7,dI]
       intro hlen3
       refine eZ (fun hlt=>?_) (fun hge=>?_)
       ·simp [go_sem,seval,h6,h7,dI,hlt,Attr.c]
        have hta:=DH (t.attrs i)[k] ((t.attrs i).take k) (hok _ (aB hlt))
        simp only [Attr.c,dI,List.map_take] at hta
        have hcl:D.clLL (List.take k (List.map Attr.c (t.attrs i)))=true:=by rw [← List.map_take];exact q7 _
        refine ⟨⟨hk,by cases t.attrs i<;>simp [Attr.c]⟩,aM hta (by simp [D.clL,D.cl,hcl,Sq]) ?_⟩
        have hstep:b9 (fun k=>match (t.attrs i)[k]? with|some x=>c8 x ((t.attrs i).take k)|none=>0) k ((t.attrs i).length - k) =
          if c8 (t.attrs i)[k] ((t.attrs i).take k)≠0 then c8 (t.attrs i)[k] ((t.attrs i).take k) else b9 (fun k=>match (t.attrs i)[k]? with|some x=>c8 x ((t.attrs i).take k)|none=>0) (k+1) ((t.attrs i).length - (k+1)):=by
         rw [show (t.attrs i).length - k=(t.attrs i).length - (k+1)+1 by omega,b9,aA hlt]
        rw [hstep] at hF
        simp [go_sem,seval]
        refine aJ (fun hz=>?_) (fun hz=>?_)
        ·have hz':c8 (t.attrs i)[k] ((t.attrs i).take k)≠0:=by simpa using hz
         rw [if_pos hz'] at hF
         simp [go_sem,seval,hF]
        ·have hz':¬ c8 (t.attrs i)[k] ((t.attrs i).take k)≠0:=by simpa using hz
         rw [if_neg hz'] at hF
         simp [go_sem,seval,h6,h7,dI]
         exact ⟨c3 (by omega) (by omega),k+1,by omega,by omega,by omega,hF⟩
       ·simp [go_sem,seval]
        rw [← hF,show (t.attrs i).length - k=0 by omega];rfl
def boundedF (low high:Int):Bool:=(decide (0≤low)&&decide (low≤40))&&(decide (high = -1)||(decide (low≤high)&&decide (high≤40)))
theorem GK (low high:Int):Pure Tryz.prog 259 [dI low,dI high] (.bool (boundedF low high)):=by
 refine aP (aH (cfg:=⟨fun _=>false,fun _=>[]⟩) Tz.mixed Tryz.func259 rfl rfl (aE rfl) (by kernel_rfl) ?_)
 simp [go_sem,seval,dI,boundedF]
 try omega
theorem KK (t:Types)(a:Int):Pure Tryz.prog 256 [dI a,.adr t.c] (.bool (decide (0≤a)&&decide (a<t.nodes.length))):=by
 refine aP (aH (cfg:=⟨fun _=>false,fun _=>[]⟩) Tz.mixed Tryz.func256 rfl rfl (aE rfl) (by kernel_rfl) ?_)
 simp [go_sem,seval,dI,Types.c]
theorem KJ (x y:EdgeTy):Pure Tryz.prog 258 [.agg y.c,.adr x.c] (.bool (decide (y.name=x.name))):=by
 refine aP (aH (cfg:=⟨fun _=>false,fun _=>[]⟩) Tz.mixed Tryz.func258 rfl rfl (aE rfl) (by kernel_rfl) ?_)
 simp [go_sem,seval,EdgeTy.c,dI]
def insideF (t:Types)(a:Int):Bool:=decide (0≤a)&&decide (a<t.nodes.length)
def g6 (t:Types)(i:Nat):Int :=
 match t.edges[i]? with
 | none=>0
 | some x =>
  if j9 x.name=false then 2
  else if ((t.edges.take i).any fun y=>decide (y.name=x.name))=true then 5
  else if (insideF t x.from_&&insideF t x.to_&&boundedF x.outLow x.outHigh&&boundedF x.inLow x.inHigh)=true then 0 else 6
theorem Ng (t:Types)(ht:t.ok)(i:Nat)(hi:i<t.edges.length):Pure Tryz.prog 156 [t.d,dI i] (dI (g6 t i)):=by
 have hno:=ht.edges _ (aB hi)
 have hcN:D.clLL (List.map NodeTy.c t.nodes)=true:=tT _
 have hcE:D.clLL (List.map EdgeTy.c t.edges)=true:=t7 _
 have hin:∀ a:Int,Pure Tryz.prog 256 [.int .i64 a,.adr [.list (t.nodes.map NodeTy.c),.list (t.edges.map EdgeTy.c)]] (.bool (insideF t a)):=KK t
 have hbd:∀ a b:Int,Pure Tryz.prog 259 [.int .i64 a,.int .i64 b] (.bool (boundedF a b)):=GK
 refine aP (aH (cfg:=⟨fun t=>t==5,fun _=>[]⟩) Tz.mixed Tryz.func156 rfl rfl (aE rfl) (by kernel_rfl) ?_)
 simp [go_sem,seval,dI,Types.d,Types.c,EdgeTy.c,aA hi,hi]
 refine aC (mM _ hno.name) rfl ?_
 simp [go_sem,seval]
 refine aJ (fun hn=>?_) (fun hn=>?_)
 ·simp at hn
  simp [go_sem,seval,g6,aA hi,hn]
 ·simp at hn
  simp [go_sem,seval]
  have hc:=Br (t.edges.take i) 258 [.adr t.edges[i].c] (fun y=>decide (y.name=t.edges[i].name)) (by simp [D.clL,D.cl,EdgeTy.cl]) (by rw [D.cl];exact t7 _) (fun y _=>KJ t.edges[i] y)
  refine ⟨⟨by omega,by cases t.edges<;>simp [EdgeTy.c]⟩,mA hc (by simp [sP,tI,eD,go_sem,EdgeTy.c,dI,List.map_take]) (by simp only [D.clL,D.cl,t7,EdgeTy.cl];rfl) rfl ?_⟩
  simp [go_sem,seval]
  refine aJ (fun hb=>?_) (fun hb=>?_)
  ·simp [go_sem,seval,g6,aA hi,hn,hb]
  ·simp [go_sem,seval,EdgeTy.c,dI]
   refine aC (hin _) (by simp [D.clL,D.cl,hcN,hcE]) ?_
   simp [go_sem,seval,EdgeTy.c,dI]
   refine aN (fun _=>hin _) (fun _=>by simp [D.clL,D.cl,hcN,hcE]) ?_
   simp [go_sem,seval,EdgeTy.c,dI]
   refine aJ (fun h1=>?_) (fun h1=>?_)
   ·have e:g6 t i=6:=by
     simp only [g6,aA hi];rw [if_neg (by simp [hn]),if_neg (by simp [hb]),if_neg (by intro h;simp at h;simp [h] at h1)]
    simp [go_sem,seval]
    refine aJ (fun _=>?_) (fun h=>?_)
    ·simp [go_sem,seval,e]
    ·rw [h1] at h;cases h
   ·simp [go_sem,seval,EdgeTy.c,dI]
    refine aC (hbd _ _) rfl ?_
    simp [go_sem,seval,EdgeTy.c,dI]
    refine aN (fun _=>hbd _ _) (fun _=>rfl) ?_
    simp [go_sem,seval,EdgeTy.c,dI]
    refine aJ (fun h2=>?_) (fun h2=>?_)
    ·have e:g6 t i=6:=by
      simp only [g6,aA hi];rw [if_neg (by simp [hn]),if_neg (by simp [hb]),if_neg (by intro h;simp at h;simp [h] at h2)]
     simp [go_sem,seval,e]
    ·have e:g6 t i=0:=by
      simp only [g6,aA hi];rw [if_neg (by simp [hn]),if_neg (by simp [hb]),if_pos (by simp at h1 h2 ⊢;simp [h1,h2])]
     simp [go_sem,seval,e]
theorem uW (t:Types)(j:Nat)(n:NodeTy)(h:fY t j=0)(hn:t.nodes[j]?=some n):n.parent<j:=by
 simp only [fY,hn] at h
 split at h
 ·cases h
 ·split at h
  ·cases h
  ·split at h
   ·cases h
   ·rename_i hr;simp at hr;omega
def d9 (f:Nat→Int)(nm:Nat→ByteArray)(last:ByteArray × Int):Nat→Nat→ByteArray × Int
 | _,0=>last
 | k,n+1=>if f k≠0 then (nm k,f k) else d9 f nm last (k+1) n
def Types.nodeName (t:Types)(i:Nat):ByteArray:=match t.nodes[i]? with|some n=>n.name|none=>⟨#[]⟩
def Types.edgeName (t:Types)(i:Nat):ByteArray:=match t.edges[i]? with|some n=>n.name|none=>⟨#[]⟩
def cW (t:Types):ByteArray × Int :=
 if t.nodes.length=0 then (⟨#[]⟩,7)
 else if 12<t.nodes.length∨20<t.edges.length then (⟨#[]⟩,3)
 else d9 (fY t) t.nodeName (d9 (g6 t) t.edgeName (⟨#[]⟩,0) 0 t.edges.length) 0 t.nodes.length
theorem kK (t:Types)(ht:t.ok):Pure Tryz.prog 71 [t.d] (.tup [.str (cW t).1,dI (cW t).2]):=by
 refine aP (aH (cfg:=⟨fun t=>t==5||t==8,fun _=>[]⟩) Tz.mixed Tryz.func71 rfl rfl (aE rfl) (by kernel_rfl) ?_)
 simp [go_sem,seval,dI,Types.d,Types.c]
 intro hlen
 refine aJ (fun h0=>?_) (fun h0=>?_)
 ·simp at h0
  simp [go_sem,seval,cW,h0]
 ·simp at h0
  simp [go_sem,seval]
  intro _ _
  refine aJ (fun hb=>?_) (fun hb=>?_)
  ·have hb':12<t.nodes.length∨20<t.edges.length:=by simp at hb;omega
   simp [go_sem,seval,cW,h0,hb']
  ·have hb':¬ (12<t.nodes.length∨20<t.edges.length):=by simp at hb;omega
   have e:cW t=d9 (fY t) t.nodeName (d9 (g6 t) t.edgeName (⟨#[]⟩,0) 0 t.edges.length) 0 t.nodes.length:=by simp [cW,h0,hb']
   simp [go_sem,seval]
   intro _
   refine eO (ι:=Nat) (fun i e H=>i≤t.nodes.length∧e 1=.adr t.c∧e 27=.list (t.nodes.map NodeTy.c)∧e 28=dI t.nodes.length∧e 29=dI i∧(∀ j,j<i→fY t j=0) ∧
    d9 (fY t) t.nodeName (d9 (g6 t) t.edgeName (⟨#[]⟩,0) 0 t.edges.length) i (t.nodes.length - i)=cW t) (fun i=>t.nodes.length - i) 0 (by simp [go_sem,seval,dI,Types.c,e]) ?_
   intro i e' H ⟨hi,h1,h27,h28,h29,hz,hF⟩
   simp [go_sem,seval,h1,h27,h28,h29,dI,Types.c]
   refine eZ (fun hlt=>?_) (fun hge=>?_)
   ·simp [go_sem,seval,h1,h27,h28,h29,dI,Types.c,NodeTy.c,hlt]
    have hnd:=Nd t ht i hlt (fun j n hj hn=>uW t j n (hz j hj) hn)
    simp only [Types.d,Types.c,dI] at hnd
    have hstep:d9 (fY t) t.nodeName (d9 (g6 t) t.edgeName (⟨#[]⟩,0) 0 t.edges.length) i (t.nodes.length - i) =
      if fY t i≠0 then (t.nodeName i,fY t i) else d9 (fY t) t.nodeName (d9 (g6 t) t.edgeName (⟨#[]⟩,0) 0 t.edges.length) (i+1) (t.nodes.length - (i+1)):=by
     rw [show t.nodes.length - i=t.nodes.length - (i+1)+1 by omega,d9]
    rw [hstep] at hF
    refine aC hnd (by simp [D.clL,D.cl,tT,t7]) ?_
    simp [go_sem,seval]
    refine aJ (fun hc=>?_) (fun hc=>?_)
    ·have hc':fY t i≠0:=by simpa using hc
     rw [if_pos hc'] at hF
     simp [go_sem,seval,← hF,Types.nodeName,aA hlt]
    ·have hc':¬ fY t i≠0:=by simpa using hc
     rw [if_neg hc'] at hF
     simp [go_sem,seval,h1,h27,h28,h29,dI,Types.c]
     refine ⟨c3 (by omega) (by omega),i+1,by omega,by omega,by omega,fun j hj=>?_,hF⟩
     rcases b8 j i with hj'|hj'
     ·exact hz j hj'
     ·have:j=i:=by omega
      subst this;simpa using hc'
   ·simp [go_sem,seval,h1,h27,h28,h29,dI,Types.c]
    intro _
    rw [show t.nodes.length - i=0 by omega] at hF
    simp only [d9] at hF
    refine eO (ι:=Nat) (fun i e H=>i≤t.edges.length∧e 1=.adr t.c∧e 44=.list (t.edges.map EdgeTy.c)∧e 45=dI t.edges.length∧e 46=dI i ∧
     d9 (g6 t) t.edgeName (⟨#[]⟩,0) i (t.edges.length - i)=cW t) (fun i=>t.edges.length - i) 0 (by simp [go_sem,seval,h1,dI,Types.c,hF]) ?_
    intro i e' H ⟨hi,h1,h44,h45,h46,hF⟩
    simp [go_sem,seval,h1,h44,h45,h46,dI,Types.c]
    refine eZ (fun hlt=>?_) (fun hge=>?_)
    ·simp [go_sem,seval,h1,h44,h45,h46,dI,Types.c,EdgeTy.c,hlt]
     have hnd:=Ng t ht i hlt
     simp only [Types.d,Types.c,dI] at hnd
     have hstep:d9 (g6 t) t.edgeName (⟨#[]⟩,0) i (t.edges.length - i) =
       if g6 t i≠0 then (t.edgeName i,g6 t i) else d9 (g6 t) t.edgeName (⟨#[]⟩,0) (i+1) (t.edges.length - (i+1)):=by
      rw [show t.edges.length - i=t.edges.length - (i+1)+1 by omega,d9]
     rw [hstep] at hF
     refine aC hnd (by simp [D.clL,D.cl,tT,t7]) ?_
     simp [go_sem,seval]
     refine aJ (fun hc=>?_) (fun hc=>?_)
     ·have hc':g6 t i≠0:=by simpa using hc
      rw [if_pos hc'] at hF
      simp [go_sem,seval,← hF,Types.edgeName,aA hlt]
     ·have hc':¬ g6 t i≠0:=by simpa using hc
      rw [if_neg hc'] at hF
      simp [go_sem,seval,h1,h44,h45,h46,dI,Types.c]
      exact ⟨c3 (by omega) (by omega),i+1,by omega,by omega,by omega,hF⟩
    ·rw [show t.edges.length - i=0 by omega] at hF
     simp only [d9] at hF
     simp [go_sem,seval,← hF]
@[go_sem] theorem yF (l:List Int):D.clLL (l.map cI)=true:=dA cI (fun _=>rfl) l
@[go_sem] theorem Cn (l:List Edge):D.clLL (l.map Edge.c)=true:=dA _ Edge.cl l
theorem Hf (xs:List Int)(g:FuncId)(caps:List D)(p:Int→Bool)(hc:D.clL caps=true)(hg:∀ x∈xs,Pure Tryz.prog g (.int .i64 x :: caps) (.bool (p x))) :
  Pure Tryz.prog 198 [.list (xs.map cI),.fn g caps] (dI (Af xs p)):=by
 refine aP (aH (cfg:=⟨fun _=>false,fun _=>[]⟩) Tz.mixed Tryz.func198 rfl rfl (aE rfl) (by kernel_rfl) ?_)
 simp [go_sem,seval,dI,dLI]
 intro hlen
 refine eO (ι:=Nat) (fun i e H=>H=.emp∧i≤xs.length∧e 0=.list (xs.map cI)∧e 1=.fn g caps∧e 7=dI xs.length∧e 8=dI i∧(∀ j x,j<i→xs[j]?=some x→p x=false)) (fun i=>xs.length - i) 0 (by simp [go_sem,seval,dI,dLI]) ?_
 intro i e H ⟨hH,hi,h0,h1,h7,h8,hn⟩
 subst hH
 simp [go_sem,seval,h0,h1,h7,h8,dI,dLI]
 refine eZ (fun hlt=>?_) (fun hge=>?_)
 ·have hgx:=hg xs[i] (aB hlt)
  simp [go_sem,seval,h0,h1,h7,h8,dI,dLI,hlt,cI] at hgx ⊢
  refine aC hgx (by simp [go_sem,hc]) ?_
  simp [go_sem,seval,h0,h1,h7,h8,dI,dLI]
  refine aJ (fun h=>?_) (fun h=>?_)
  ·simp [go_sem,seval,h0,h1,h7,h8,dI,dLI]
   rw [k9 hn hlt h]
  ·simp [go_sem,seval,h0,h1,h7,h8,dI,dLI]
   refine ⟨c3 (by omega) (by omega),i+1,by omega,by omega,by omega,fun j x hj hx=>?_⟩
   rcases b8 j i with hj'|hj'
   ·exact hn j x hj' hx
   ·have:j=i:=by omega
    subst this
    rw [aA hlt] at hx
    cases hx;exact h
 ·simp [go_sem,seval,h0,h1,h7,h8,dI,dLI]
  rw [lA fun j x hj=>hn j x (by omega)]
theorem fP (xs:List Int)(g:FuncId)(caps:List D)(p:Int→Bool)(hc:D.clL caps=true)(hl:D.cl (.list (xs.map cI))=true)(hg:∀ x∈xs,Pure Tryz.prog g (.int .i64 x :: caps) (.bool (p x))) :
  Pure Tryz.prog 111 [.list (xs.map cI),.fn g caps] (.bool (xs.any p)):=by
 refine aP (aH (cfg:=⟨fun _=>false,fun _=>[]⟩) Tz.mixed Tryz.func111 rfl rfl (aE rfl) (by kernel_rfl) ?_)
 simp [go_sem,seval]
 refine aC (Hf xs g caps p hc hg) (by simp only [D.clL,hl,dU];simp [D.cl,hc]) ?_
 simp [go_sem,seval,dI,mZ]
theorem DO (xs:List Edge)(g:FuncId)(caps:List D)(p:Edge→Bool)(hc:D.clL caps=true)(hg:∀ x∈xs,Pure Tryz.prog g (.agg x.c :: caps) (.bool (p x))) :
  Pure Tryz.prog 260 [.list (xs.map Edge.c),.fn g caps] (dI (Af xs p)):=by
 refine aP (aH (cfg:=⟨fun _=>false,fun _=>[]⟩) Tz.mixed Tryz.func260 rfl rfl (aE rfl) (by kernel_rfl) ?_)
 simp [go_sem,seval,dI,dLI]
 intro hlen
 refine eO (ι:=Nat) (fun i e H=>H=.emp∧i≤xs.length∧e 0=.list (xs.map Edge.c)∧e 1=.fn g caps∧e 7=dI xs.length∧e 8=dI i∧(∀ j x,j<i→xs[j]?=some x→p x=false)) (fun i=>xs.length - i) 0 (by simp [go_sem,seval,dI,dLI]) ?_
 intro i e H ⟨hH,hi,h0,h1,h7,h8,hn⟩
 subst hH
 simp [go_sem,seval,h0,h1,h7,h8,dI,dLI]
 refine eZ (fun hlt=>?_) (fun hge=>?_)
 ·have hgx:=hg xs[i] (aB hlt)
  simp [go_sem,seval,h0,h1,h7,h8,dI,dLI,hlt,Edge.c] at hgx ⊢
  refine aC hgx (by simp [go_sem,hc]) ?_
  simp [go_sem,seval,h0,h1,h7,h8,dI,dLI]
  refine aJ (fun h=>?_) (fun h=>?_)
  ·simp [go_sem,seval,h0,h1,h7,h8,dI,dLI]
   rw [k9 hn hlt h]
  ·simp [go_sem,seval,h0,h1,h7,h8,dI,dLI]
   refine ⟨c3 (by omega) (by omega),i+1,by omega,by omega,by omega,fun j x hj hx=>?_⟩
   rcases b8 j i with hj'|hj'
   ·exact hn j x hj' hx
   ·have:j=i:=by omega
    subst this
    rw [aA hlt] at hx
    cases hx;exact h
 ·simp [go_sem,seval,h0,h1,h7,h8,dI,dLI]
  rw [lA fun j x hj=>hn j x (by omega)]
theorem lZ (xs:List Edge)(g:FuncId)(caps:List D)(p:Edge→Bool)(hc:D.clL caps=true)(hl:D.cl (.list (xs.map Edge.c))=true)(hg:∀ x∈xs,Pure Tryz.prog g (.agg x.c :: caps) (.bool (p x))) :
  Pure Tryz.prog 159 [.list (xs.map Edge.c),.fn g caps] (.bool (xs.any p)):=by
 refine aP (aH (cfg:=⟨fun _=>false,fun _=>[]⟩) Tz.mixed Tryz.func159 rfl rfl (aE rfl) (by kernel_rfl) ?_)
 simp [go_sem,seval]
 refine aC (DO xs g caps p hc hg) (by simp only [D.clL,hl,dU];simp [D.cl,hc]) ?_
 simp [go_sem,seval,dI,mZ]
def gF (n m:Int):Bool:=decide (0≤n)&&decide (n≤m)
theorem Be (n m:Int):Pure Tryz.prog 158 [dI n,dI m] (.bool (gF n m)):=by
 refine aP (aH (cfg:=⟨fun _=>false,fun _=>[]⟩) Tz.mixed Tryz.func158 rfl rfl (aE rfl) (by kernel_rfl) ?_)
 simp [go_sem,seval,dI,gF]
def sB (x:Edge)(n:Int):Bool:=gF x.type 99&&gF x.from_ (n - 1)&&gF x.to_ (n - 1)
theorem Om (x:Edge)(n:Int)(h0:0≤n)(h1:n≤1000000):Pure Tryz.prog 161 [.agg x.c,dI n] (.bool (sB x n)):=by
 have hw:∀ a b:Int,Pure Tryz.prog 158 [.int .i64 a,.int .i64 b] (.bool (gF a b)):=Be
 refine aP (aH (cfg:=⟨fun _=>false,fun _=>[]⟩) Tz.mixed Tryz.func161 rfl rfl (aE rfl) (by kernel_rfl) ?_)
 simp [go_sem,seval,dI,Edge.c]
 refine aC (hw _ _) rfl ?_
 simp [go_sem,seval,dI,Edge.c]
 refine ⟨fun _=>c3 (by omega) (by omega),aN (fun _=>hw _ _) (fun _=>rfl) ?_⟩
 simp [go_sem,seval,dI,Edge.c]
 refine ⟨fun _ _=>c3 (by omega) (by omega),aN (fun _=>hw _ _) (fun _=>rfl) ?_⟩
 simp [go_sem,seval,sB]
theorem J3 (n:Int):Pure Tryz.prog 157 [.int .i64 n] (.bool (!gF n 99)):=by
 have hw:∀ a b:Int,Pure Tryz.prog 158 [.int .i64 a,.int .i64 b] (.bool (gF a b)):=Be
 refine aP (aH (cfg:=⟨fun _=>false,fun _=>[]⟩) Tz.mixed Tryz.func157 rfl rfl (aE rfl) (by kernel_rfl) ?_)
 simp [go_sem,seval,dI]
 refine aC (hw _ _) rfl ?_
 simp [go_sem,seval]
theorem J2 (g:Graph)(hg:g.nodes.length≤1000000)(x:Edge):Pure Tryz.prog 160 [.agg x.c,.adr g.c] (.bool (!sB x g.nodes.length)):=by
 have hf:=Om x g.nodes.length (by omega) (by omega)
 simp only [Edge.c,dI] at hf
 refine aP (aH (cfg:=⟨fun _=>false,fun _=>[]⟩) Tz.mixed Tryz.func160 rfl rfl (aE rfl) (by kernel_rfl) ?_)
 simp [go_sem,seval,dI,Edge.c,Graph.c,dLI]
 intro _
 refine aC hf rfl ?_
 simp [go_sem,seval]
def graphF (g:Graph):Int :=
 if 40<g.nodes.length∨80<g.edges.length then 3
 else if (g.nodes.any fun n=>!gF n 99)=true then 6
 else if (g.edges.any fun x=>!sB x g.nodes.length)=true then 6
 else 0
theorem kS (g:Graph):Pure Tryz.prog 72 [g.d] (dI (graphF g)):=by
 refine aP (aH (cfg:=⟨fun _=>false,fun _=>[]⟩) Tz.mixed Tryz.func72 rfl rfl (aE rfl) (by kernel_rfl) ?_)
 simp [go_sem,seval,dI,Graph.d,Graph.c,dLI]
 intro _ _
 refine aJ (fun h=>?_) (fun h=>?_)
 ·have h':40<g.nodes.length∨80<g.edges.length:=by simp at h;omega
  simp [go_sem,seval,graphF,h']
 ·have h':¬ (40<g.nodes.length∨80<g.edges.length):=by simp at h;omega
  have h1:=fP g.nodes 157 [] (fun n=>!gF n 99) rfl (by simp [D.cl,yF]) (fun n _=>J3 n)
  have h2:=lZ g.edges 160 [.adr g.c] (fun x=>!sB x g.nodes.length) (by simp [D.clL,D.cl,Graph.c,yF,Cn,dLI]) (by simp [D.cl,Cn]) (fun x _=>J2 g (by omega) x)
  simp only [Graph.c,dLI] at h2
  simp [go_sem,seval]
  refine aC h1 (by simp [D.clL,D.cl,yF]) ?_
  simp [go_sem,seval]
  refine aJ (fun ha=>?_) (fun ha=>?_)
  ·have e:graphF g=6:=by unfold graphF;rw [if_neg h',if_pos ha]
   simp [go_sem,seval,e]
  ·simp [go_sem,seval]
   refine aC h2 (by simp [D.clL,D.cl,yF,Cn]) ?_
   simp [go_sem,seval]
   refine aJ (fun hb=>?_) (fun hb=>?_)
   ·have e:graphF g=6:=by unfold graphF;rw [if_neg h',if_neg (by rw [ha];simp),if_pos hb]
    simp [go_sem,seval,e]
   ·have e:graphF g=0:=by unfold graphF;rw [if_neg h',if_neg (by rw [ha];simp),if_neg (by rw [hb];simp)]
    simp [go_sem,seval,e]
theorem ES (n:Int):Pure Tryz.prog 275 [.int .i64 n] (.bool (gF n 99)):=by
 refine aP (aH (cfg:=⟨fun _=>false,fun _=>[]⟩) Tz.mixed Tryz.func275 rfl rfl (aE rfl) (by kernel_rfl) ?_)
 simp [go_sem,seval,gF]
theorem Lz (x:Edge)(n:Int):Pure Tryz.prog 276 [.agg x.c,.int .i64 n] (.bool (sB x n)):=by
 refine aP (aH (cfg:=⟨fun _=>false,fun _=>[]⟩) Tz.mixed Tryz.func276 rfl rfl (aE rfl) (by kernel_rfl) ?_)
 simp [go_sem,seval,Edge.c,dI]
 refine aC (ES _) rfl ?_
 simp [go_sem,seval,Edge.c,dI,sB,gF]
 rw [aY];simp;omega
theorem cC {α:Type}(l:List α)(p:α→Bool)(i:Nat)(hi:i<l.length):(l.take (i+1)).any p=((l.take i).any p||p l[i]):=by
 rw [aF hi,oG];simp
theorem i5 (g:Graph):Pure Tryz.prog 185 [g.d] (dI (graphF g)):=by
 refine aP (aH (cfg:=⟨fun _=>false,fun _=>[]⟩) Tz.mixed Tryz.func185 rfl rfl (aE rfl) (by kernel_rfl) ?_)
 simp [go_sem,seval,dI,Graph.d,Graph.c,dLI]
 intro _ _
 refine aJ (fun h=>?_) (fun h=>?_)
 ·have h':40<g.nodes.length∨80<g.edges.length:=by simp at h;omega
  simp [go_sem,seval,graphF,h']
 ·have h':¬ (40<g.nodes.length∨80<g.edges.length):=by simp at h;omega
  simp [go_sem,seval]
  refine eO (ι:=Nat) (fun i e H=>i≤g.nodes.length∧e 1=.adr g.c∧e 3=dI i∧((g.nodes.take i).any fun n=>!gF n 99)=false) (fun i=>g.nodes.length - i) 0 (by simp [go_sem,seval,dI,Graph.c,dLI]) ?_
  intro i e H ⟨hi,h1,h3,ha⟩
  simp [go_sem,seval,h1,h3,dI,Graph.c,dLI]
  intro _
  refine eZ (fun hlt=>?_) (fun hge=>?_)
  ·simp [go_sem,seval,h1,h3,dI,Graph.c,dLI,hlt,cI]
   refine aC (ES _) rfl ?_
   simp [go_sem,seval]
   refine aJ (fun hc=>?_) (fun hc=>?_)
   ·have hany:(g.nodes.any fun n=>!gF n 99)=true:=List.any_eq_true.2 ⟨_,aB hlt,hc⟩
    have e:graphF g=6:=by unfold graphF;rw [if_neg h',if_pos hany]
    simp [go_sem,seval,e]
   ·simp [go_sem,seval,h1,h3,dI,Graph.c,dLI]
    refine ⟨c3 (by omega) (by omega),i+1,by omega,by omega,by omega,?_⟩
    have:=cC g.nodes (fun n=>!gF n 99) i hlt
    rw [ha,hc] at this
    simpa using this
  ·simp [go_sem,seval,h1,h3,dI,Graph.c,dLI]
   have ha':(g.nodes.any fun n=>!gF n 99)=false:=by rw [show i=g.nodes.length by omega,List.take_length] at ha;exact ha
   refine eO (ι:=Nat) (fun k e H=>k≤g.edges.length∧e 1=.adr g.c∧e 4=dI k∧((g.edges.take k).any fun x=>!sB x g.nodes.length)=false) (fun k=>g.edges.length - k) 0 (by simp [go_sem,seval,h1,dI,Graph.c,dLI]) ?_
   intro k e H ⟨hk,h1,h4,hb⟩
   simp [go_sem,seval,h1,h4,dI,Graph.c,dLI]
   intro _
   refine eZ (fun hlt=>?_) (fun hge=>?_)
   ·have hr:=Lz g.edges[k] g.nodes.length
    simp only [Edge.c,dI] at hr
    simp [go_sem,seval,h1,h4,dI,Graph.c,dLI,hlt,Edge.c]
    refine aM hr rfl ?_
    simp [go_sem,seval]
    refine aJ (fun hc=>?_) (fun hc=>?_)
    ·have hany:(g.edges.any fun x=>!sB x g.nodes.length)=true:=List.any_eq_true.2 ⟨_,aB hlt,hc⟩
     have e:graphF g=6:=by unfold graphF;rw [if_neg h',if_neg (by rw [ha'];simp),if_pos hany]
     simp [go_sem,seval,e]
    ·simp [go_sem,seval,h1,h4,dI,Graph.c,dLI]
     refine ⟨c3 (by omega) (by omega),k+1,by omega,by omega,by omega,?_⟩
     have:=cC g.edges (fun x=>!sB x g.nodes.length) k hlt
     rw [hb,hc] at this
     simpa using this
   ·have hb':(g.edges.any fun x=>!sB x g.nodes.length)=false:=by rw [show k=g.edges.length by omega,List.take_length] at hb;exact hb
    have e:graphF g=0:=by unfold graphF;rw [if_neg h',if_neg (by rw [ha'];simp),if_neg (by rw [hb'];simp)]
    simp [go_sem,seval,e]
attribute [go_sem] dI dLI o8 cI cS Attr.c NodeTy.c EdgeTy.c Types.c Types.d Edge.c Graph.c Graph.d
theorem Gf (a b:List D):D.clL (a++b)=(D.clL a&&D.clL b):=by
 induction a with
 | nil=>simp [D.clL]
 | cons x a ih=>simp [D.clL,ih,DE]
@[go_sem] theorem Ue (a b:List (List D)):D.clLL (a++b)=(D.clLL a&&D.clLL b):=by
 induction a with
 | nil=>simp [D.clLL]
 | cons x a ih=>simp [D.clLL,ih,DE]
attribute [go_sem] Gf
def inF (n low high:Int):Bool:=decide (low≤n)&&decide (n≤high)
theorem lO (n low high:Int):Pure Tryz.prog 191 [dI n,dI low,dI high] (.bool (inF n low high)):=by
 refine Tz.pK ⟨fun _=>false,fun _=>[]⟩ Tryz.func191 rfl (fun Q hQ=>?_)
 have Y:=trivial
 have Y:=wa Y @inF.eq_1
 exact wo (h:=hQ _ _ wy)
theorem LU {l:List ByteArray}{i:Nat}(hi:i<l.length):mem (l.take i) l[i]=true↔∃ j,j<i∧l[j]?=some l[i]:=by
 rw [dM,DC]
 constructor
 ·rintro ⟨j,hj,he⟩
  have hj':j<l.length:=by omega
  exact ⟨j,by omega,by rw [aA hj',he]⟩
 ·rintro ⟨j,hj,he⟩
  have hj':j<l.length:=by omega
  rw [aA hj'] at he
  exact ⟨j,by omega,by simpa using he⟩
theorem jA {p:Nat→Prop}{k:Nat}(h:∀ j,j<k→p j)(hk:p k):∀ j,j<k+1→p j:=fun j hj=>by
 rcases b8 j k with h'|h'
 ·exact h j h'
 ·have:j=k:=by omega
  subst this;exact hk
theorem LA (l:List ByteArray)(hs:∀ s∈l,s.size≤100000):Pure Tryz.prog 402 [o8 l] (dI (kR l)):=by
 refine Tz.pK ⟨fun _=>false,fun _=>[]⟩ Tryz.func402 rfl (fun Q hQ=>?_)
 have Y:=trivial
 refine eJ (fun h1=>?_) fun h1=>?_
 ·exact wv (h:=hQ _ _ (by simp [go_sem,kR,show 20<l.length by omega]))
 ·refine wv (h:=bG (fun i e H=>(e 0=o8 l∧e 3=dI i)∧(i≤l.length)∧(jW (l.take i) (l.drop i)=kR l)) (fun i=>l.length - i) 0 ⟨wg,wi,(by simp [kR,show ¬ 20<l.length by omega])⟩ fun I0 hI0 i e H hi0=>?_)
  obtain ⟨E0,hi,hn⟩:=hi0
  have Y:=wa Y E0
  refine eJ (fun h4=>?_) fun h4=>?_
  ·rw [cX h4] at hn
   have hsz:=hs _ (aB h4)
   have Y:=wa Y h4
   refine wo (h:=aC (mS _ (by assumption)) wl ?_)
   refine eJ (fun h6=>?_) fun h6=>?_
   ·exact wv (h:=hQ _ _ (by rw [← hn];simp [go_sem,jW,h6]))
   ·refine wv (h:=bG (fun k e H=>(e 0=o8 l∧e 3=dI i∧e 4=dI k)∧(k≤i)∧(∀ j,j<k→l[j]?≠some l[i])) (fun k=>i - k) 0 ⟨wg,wi,(by intro j hj;omega)⟩ fun I2 hI2 k e H hi2=>?_)
    obtain ⟨E2,hk,hne⟩:=hi2
    have Y:=wa Y E2
    refine d7 (fun h9=>?_) fun h9=>?_
    ·have hkl:k<l.length:=by omega
     have Y:=wa Y (wa h9 hkl)
     refine eJ (fun h11=>?_) fun h11=>?_
     ·exact wv (h:=hQ _ _ (by have hm:mem (l.take i) l[i]=true:=(LU h4).2 ⟨k,h9,by rw [aA hkl,h11]⟩;rw [← hn];simp [go_sem,jW,h6,hm]))
     ·exact wo (h:=wx hI2 (k+1) ⟨wg,wj,(by exact jA hne (by rw [aA hkl];simpa using h11))⟩)
    ·have hm:¬ mem (l.take i) l[i]=true:=fun hm=>by
      obtain ⟨j,hj,he⟩:=(LU h4).1 hm
      exact hne j (by omega) he
     exact wo (h:=wx hI0 (i+1) ⟨wg,wj,(by rw [← hn,jW,if_neg (by simp [h6]),if_neg hm,aF h4])⟩)
  ·exact wv (h:=hQ _ _ (by rw [← hn,show i=l.length by omega];simp [go_sem,jW]))
def Dx (x:Attr):Int :=
 if kR x.names≠0 then kR x.names
 else if (if 0<x.names.length then decide (x.low=0)&&decide (x.high=x.names.length - 1) else decide (-1000000≤x.low)&&decide (x.low≤x.high)&&decide (x.high≤1000000))=true then 0 else 6
theorem DM (x:Attr)(hx:x.ok):Pure Tryz.prog 351 [.agg x.c] (dI (Dx x)):=by
 have hfew:=hx.few
 have hz:x.names=[]→kR x.names=0:=fun h=>by rw [h];rfl
 refine Tz.pK ⟨fun _=>false,fun _=>[]⟩ Tryz.func351 rfl (fun Q hQ=>?_)
 have Y:=trivial
 refine eJ (fun h1=>?_) fun h1=>?_
 ·have hp:¬ 0<x.names.length:=by simp [h1]
  refine wo (h:=aC (lO _ _ _) wl ?_)
  refine wo (h:=aN (fun hg=>lO _ _ _) (fun hg=>wl) ?_)
  refine eJ (fun h2=>?_) fun h2=>?_
  ·exact wv (h:=hQ _ _ (by simp [go_sem,Dx,hz h1,hp];simp [inF] at h2;omega))
  ·exact wv (h:=hQ _ _ (by simp [go_sem,Dx,hz h1,hp];simp [inF] at h2;omega))
 ·have hp:0<x.names.length:=by cases hh:x.names<;>simp_all
  refine wv (h:=aC (LA x.names hx.names) wl ?_)
  refine d7 (fun h6=>?_) fun h6=>?_
  ·exact wv (h:=hQ _ _ (by simp [go_sem,Dx,h6]))
  ·refine eJ (fun h8=>?_) fun h8=>?_
   ·exact wv (h:=hQ _ _ (by simp [go_sem,Dx,h6,hp];omega))
   ·exact wv (h:=hQ _ _ (by simp [go_sem,Dx,h6,hp];omega))
theorem CF (t:Types)(a:Nat)(ha:a<t.nodes.length)(hp:parentsOK t.nodes a) :
  t.attrs a=(if 0≤t.nodes[a].parent then t.attrs t.nodes[a].parent.toNat else [])++t.nodes[a].attrs:=by
 have hpa:=hp a _ (bQ _) (aA ha)
 by_cases h':0≤t.nodes[a].parent
 ·have hlt:t.nodes[a].parent.toNat<a:=by omega
  have:=Dv t.nodes t.nodes[a].parent.toNat a (t.nodes[a].parent.toNat+1) (fun j m hj hm=>hp j m (by omega) hm) hlt (by omega)
  simp [Types.attrs,iI,aA ha,h',this]
 ·simp [Types.attrs,iI,aA ha,h']
theorem JJ (t:Types)(a:Int)(ha:a<0):Pure Tryz.prog 190 [t.d,dI a] (.list []):=by
 refine Tz.pK ⟨fun t=>t==7,fun r=>match r with|3=>[(0,1),(0,2),(0,3),(0,5),(0,6),(0,7),(0,8),(0,10),(9,10),(0,11),(9,11),(0,13),(9,13),(0,14),(9,14),(0,15),(9,15)]|_=>[]⟩ Tryz.func190 rfl (fun Q hQ=>?_)
 have Y:=ha
 exact wv (h:=hQ _ _ wy)
theorem Da (t:Types)(ht:t.ok):∀ a:Nat,a<t.nodes.length→parentsOK t.nodes a→Pure Tryz.prog 190 [t.d,dI a] (.list ((t.attrs a).map Attr.c)):=by
 intro a
 induction a using Nat.strongRecOn with
 | _ a ih =>
 intro ha hp
 have hpa:=hp a _ (bQ _) (aA ha)
 have hlen:=q8 t.nodes (fun n hn=>(ht.nodes n hn).few) (a+1) a
 have hfew:=ht.fewN
 have e:=CF t a ha hp
 have hc:Pure Tryz.prog 190 [t.d,dI t.nodes[a].parent] (.list (((if 0≤t.nodes[a].parent then t.attrs t.nodes[a].parent.toNat else [])).map Attr.c)):=by
  by_cases h':0≤t.nodes[a].parent
  ·rw [if_pos h']
   have:=ih t.nodes[a].parent.toNat (by omega) (by omega) (fun j m hj hm=>hp j m (by omega) hm)
   rwa [Int.toNat_of_nonneg h'] at this
  ·rw [if_neg h']
   exact JJ t _ (by omega)
 have hl2:(if 0≤t.nodes[a].parent then t.attrs t.nodes[a].parent.toNat else []).length+t.nodes[a].attrs.length≤2000000:=by
  have h1:(t.attrs a).length≤1000 * (a+1):=hlen
  rw [e,aG] at h1
  omega
 rw [e]
 generalize (if 0≤t.nodes[a].parent then t.attrs t.nodes[a].parent.toNat else [])=u at *
 refine Tz.pK ⟨fun t=>t==7,fun r=>match r with|3=>[(0,1),(0,2),(0,3),(0,5),(0,6),(0,7),(0,8),(0,10),(9,10),(0,11),(9,11),(0,13),(9,13),(0,14),(9,14),(0,15),(9,15)]|_=>[]⟩ Tryz.func190 rfl (fun Q hQ=>?_)
 have Y:=wa (aA ha) (wa ha ((show ¬ ((a:Int)<0) by omega)))
 refine wo (h:=aM (hc) wl ?_)
 exact wo (h:=hQ _ _ wy)
theorem C9 (low high:Int):Pure Tryz.prog 352 [dI low,dI high] (.bool (boundedF low high)):=by
 refine Tz.pK ⟨fun _=>false,fun _=>[]⟩ Tryz.func352 rfl (fun Q hQ=>?_)
 have Y:=trivial
 refine wo (h:=aC (lO _ _ _) wl ?_)
 refine wo (h:=aN (fun hg=>lO _ _ _) (fun hg=>wl) ?_)
 have Y:=wa Y (wa @boundedF.eq_1 @inF.eq_1)
 exact wo (h:=hQ _ _ wy)
theorem sH {α:Type}{l:List α}{p:α→Bool}{k i:Nat}(hk:k<i)(hl:k<l.length)(h:p l[k]=true):(l.take i).any p=true :=
 List.any_eq_true.2 ⟨l[k],DC.2 ⟨k,by omega,rfl⟩,h⟩
theorem pS {α:Type}{l:List α}{p:α→Bool}{k i:Nat}(h:(l.take k).any p=false)(he:k=i):(l.take i).any p=false:=by rw [← he];exact h
def zO (l:List Attr)(k:Nat):Int:=match l[k]? with|some x=>c8 x (l.take k)|none=>0
theorem SC {l:List Attr}{k:Nat}(h:k<l.length):zO l k=if j9 l[k].name=false then 2 else if ((l.take k).any fun y=>decide (y.name=l[k].name))=true then 5 else Dx l[k]:=by
 unfold zO;rw [aA h];rfl
theorem fN (f:Nat→Int){k n:Nat}(h:k<n):b9 f k (n - k)=if f k≠0 then f k else b9 f (k+1) (n - (k+1)):=by
 rw [show n - k=n - (k+1)+1 by omega,b9]
theorem A3 (t:Types)(i:Nat)(hi:i<t.nodes.length):fY t i =
  if j9 t.nodes[i].name=false then 2
  else if ((t.nodes.take i).any fun m=>decide (m.name=t.nodes[i].name))=true then 5
  else if (decide (t.nodes[i].parent < -1)||decide ((i:Int)≤t.nodes[i].parent))=true then 6
  else if 4<t.nodes[i].attrs.length then 3
  else if 8<(t.attrs i).length then 3
  else b9 (zO (t.attrs i)) ((t.attrs i).length - t.nodes[i].attrs.length) t.nodes[i].attrs.length:=by
 unfold fY;rw [aA hi];rfl
theorem NV (t:Types)(ht:t.ok)(i:Nat)(hi:i<t.nodes.length)(hp:∀ j n,j<i→t.nodes[j]?=some n→n.parent<j):Pure Tryz.prog 278 [t.d,dI i] (dI (fY t i)):=by
 have hno:=ht.nodes _ (aB hi)
 have hfew:=ht.fewN
 have hF:=A3 t i hi
 have hok:∀ x∈t.attrs i,x.ok:=uE t.nodes ht.nodes _ _
 have hal:=q8 t.nodes (fun n hn=>(ht.nodes n hn).few) (i+1) i
 have hle:t.nodes[i].attrs.length≤(t.attrs i).length:=by simp [Types.attrs,iI,aA hi]
 refine Tz.pK ⟨fun t=>t==5,fun _=>[]⟩ Tryz.func278 rfl (fun Q hQ=>?_)
 have Y:=wa (aA hi) hi
 refine wo (h:=aC (mS _ hno.name) wl ?_)
 refine eJ (fun h2=>?_) fun h2=>?_
 ·exact wv (h:=hQ _ _ (.inl (by simp [go_sem,hF,h2])))
 ·refine wv (h:=bG (fun k e H=>(e 1=dI i∧e 2=.adr t.c∧e 5=.ptr 0 1 0 0∧e 6=dI k)∧(H.get 0=some ⟨183,4,[t.nodes[i].c],false⟩)∧(0<H.next)∧(k≤i)∧(((t.nodes.take k).any fun m=>decide (m.name=t.nodes[i].name))=false)) (fun k=>i - k) 0 ⟨wg,wn,wn,wi,(by simp)⟩ fun I0 hI0 k e H hi0=>?_)
  obtain ⟨E0,g0_0,n0_0,hk,hne⟩:=hi0
  have Y:=wa Y (wa E0 (wa g0_0 (cG n0_0)))
  refine d7 (fun h5=>?_) fun h5=>?_
  ·have hkl:k<t.nodes.length:=by omega
   have Y:=wa Y (wa h5 hkl)
   refine eJ (fun h7=>?_) fun h7=>?_
   ·exact wv (h:=hQ _ _ (.inl (by have hb:=sH (p:=fun m:NodeTy=>decide (m.name=t.nodes[i].name)) h5 hkl (by simpa using h7);rw [hF,if_neg (by simp [h2]),if_pos hb];simp [go_sem])))
   ·exact wo (h:=wx hI0 (k+1) ⟨wg,wn,wn,wj,(by rw [cC _ _ _ hkl,hne];simpa using h7)⟩)
  ·have hb:=pS hne (show k=i by omega)
   refine wo (h:=aC (lO _ _ _) wl ?_)
   refine eJ (fun h9=>?_) fun h9=>?_
   ·exact wv (h:=hQ _ _ (.inl (by rw [hF,if_neg (by simp [h2]),if_neg (by simp [hb]),if_pos (by simp [inF] at h9;simp;omega)];simp [go_sem])))
   ·have hr:¬ (decide (t.nodes[i].parent < -1)||decide ((i:Int)≤t.nodes[i].parent))=true:=by simp [inF] at h9;simp;omega
    have hpo:parentsOK t.nodes i:=fun j n hj hn=>by
     rcases b8 j i with h|h
     ·exact hp j n h hn
     ·have:j=i:=by omega
      subst this
      rw [aA hi] at hn
      cases hn;simp at hr;omega
    refine wv (h:=aC (Da t ht i hi hpo) wl ?_)
    refine eJ (fun h12=>?_) fun h12=>?_
    ·exact wv (h:=hQ _ _ (.inl (by rw [hF,if_neg (by simp [h2]),if_neg (by simp [hb]),if_neg hr];simp [go_sem];omega)))
    ·have hF2:fY t i=b9 (zO (t.attrs i)) ((t.attrs i).length - t.nodes[i].attrs.length) t.nodes[i].attrs.length:=by rw [hF,if_neg (by simp [h2]),if_neg (by simp [hb]),if_neg hr,if_neg (by omega),if_neg (by omega)]
     refine wo (h:=bG (fun k e H=>(e 1=dI i∧e 2=.adr t.c∧e 7=.list ((t.attrs i).map Attr.c)∧e 8=dI k)∧(k≤(t.attrs i).length)∧(b9 (zO (t.attrs i)) k ((t.attrs i).length - k)=fY t i)) (fun k=>(t.attrs i).length - k) ((t.attrs i).length - t.nodes[i].attrs.length) ⟨wg,(by omega),(by rw [hF2];congr 1;omega)⟩ fun I2 hI2 k e H hi2=>?_)
     obtain ⟨E2,hk,hFk⟩:=hi2
     have Y:=wa Y E2
     refine eJ (fun h15=>?_) fun h15=>?_
     ·have hst:=fN (zO (t.attrs i)) h15
      rw [hFk] at hst
      have hE:=SC h15
      have Y:=wa Y h15
      refine wo (h:=aC (mS _ (hok _ (aB h15)).name) wl ?_)
      refine eJ (fun h17=>?_) fun h17=>?_
      ·refine wv (h:=?_)
       have hE2:zO (t.attrs i) k=2:=by rw [hE,if_pos (by simp [h17])]
       exact hQ _ _ (.inl (by rw [hst,hE2];simp [go_sem]))
      ·refine wv (h:=bG (fun j e H=>(e 1=dI i∧e 2=.adr t.c∧e 7=.list ((t.attrs i).map Attr.c)∧e 8=dI k∧e 9=dI j)∧(j≤k)∧((((t.attrs i).take j).any fun y=>decide (y.name=(t.attrs i)[k].name))=false)) (fun j=>k - j) 0 ⟨wg,wi,(by simp)⟩ fun I4 hI4 j e H hi4=>?_)
       obtain ⟨E4,hj,hne⟩:=hi4
       have Y:=wa Y E4
       refine d7 (fun h20=>?_) fun h20=>?_
       ·have hjl:j<(t.attrs i).length:=by omega
        have Y:=wa Y (wa h20 hjl)
        refine eJ (fun h22=>?_) fun h22=>?_
        ·refine wv (h:=?_)
         have hb:=sH (p:=fun y:Attr=>decide (y.name=(t.attrs i)[k].name)) h20 hjl (by simpa using h22)
         have hE2:zO (t.attrs i) k=5:=by rw [hE,if_neg (by simp [h17]),if_pos hb]
         exact hQ _ _ (.inl (by rw [hst,hE2];simp [go_sem]))
        ·exact wo (h:=wx hI4 (j+1) ⟨wg,wj,(by rw [cC _ _ _ hjl,hne];simpa using h22)⟩)
       ·have hb2:=pS hne (show j=k by omega)
        have hE2:zO (t.attrs i) k=Dx (t.attrs i)[k]:=by rw [hE,if_neg (by simp [h17]),if_neg (by simp [hb2])]
        rw [hE2] at hst
        refine wo (h:=aC (DM _ (hok _ (aB h15))) wl ?_)
        refine eJ (fun h25=>?_) fun h25=>?_
        ·exact wv (h:=hQ _ _ (.inl (by rw [hst,if_pos (by simpa using h25)];simp [go_sem])))
        ·exact wo (h:=wx hI2 (k+1) ⟨wg,wj,(by rw [if_neg (by simp [h25])] at hst;rw [← hst])⟩)
     ·exact wv (h:=hQ _ _ (.inl (by rw [← hFk,show (t.attrs i).length - k=0 by omega];rfl)))
end Go.Abs
end

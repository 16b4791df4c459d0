/- Layer 4: types, edges. · Layer 4: types.Valid. · Layer 1, th -/
import Derived.Test.YthlnbehgghjppaaGreatZrAG
import Derived.Test.YthlnbehgghjppaaGreatZrAA
import Derived.Test.YthlnbehgghjppaaGreatZrAF
set_option linter.unusedVariables false
set_option linter.unusedSimpArgs false
section
set_option maxRecDepth 100000
set_option maxHeartbeats 4000000
open Go Go.Proofs Tryz
namespace Go.Abs
def boundedF (low high:Int):Bool:=(decide (0<=low)&&decide (low<=40))&&(decide (high = -1)||(decide (low<=high)&&decide (high<=40)))
theorem Jn (b a:Int):Pua 262 [dI b,dI a] (.bool (boundedF b a)):=by
 refine aT (Tz.c0 func262 rfl ?_);simp [go_sem,seval,dI,boundedF];try omega
theorem NF (t:Types)(a:Int):Pua 259 [dI a,.adr t.c] (.bool (decide (0<=a)&&decide (a<t.h.length))):=by
 refine aT (Tz.c0 func259 rfl ?_);simp [go_sem,seval,dI,Types.c]
theorem NE (x y:EdgeTy):Pua 261 [.agg y.c,.adr x.c] (.bool (decide (y.name=x.name))):=by
 refine aT (Tz.c0 func261 rfl ?_);simp [go_sem,seval,EdgeTy.c,dI]
def insideF (t:Types)(a:Int):Bool:=decide (0<=a)&&decide (a<t.h.length)
def kY (t:Types)(i:Nat):Int :=
 match t.i[i]? with
 | none=>0
 | some x =>
  if mN x.name=false then 2
  else if ((t.i.take i).any λy=>decide (y.name=x.name))=true then 5
  else if (insideF t x.B&&insideF t x.O&&boundedF x.b3 x.bw&&boundedF x.cv x.cb)=true then 0 else 6
theorem Qf (t:Types)(v:t.ok)(i:Nat)(k:i<t.i.length):Pua 179 [t.d,dI i] (dI (kY t i)):=by
 have s:=v.i _ (aC k);have m:D.V (List.map NodeTy.c t.h)=true:=xI _;have n:D.V (List.map EdgeTy.c t.i)=true:=xV _;have l:∀ a:Int,Pua 259 [.int .i64 a,.adr [.list (t.h.map NodeTy.c),.list (t.i.map EdgeTy.c)]] (.bool (insideF t a)):=NF t;have o:∀ a b:Int,Pua 262 [.int .i64 a,.int .i64 b] (.bool (boundedF a b)):=Jn;refine aT (Tz.cK ⟨λt=>t==5,λ_=>[]⟩ func179 rfl ?_);simp [go_sem,seval,dI,Types.d,Types.c,EdgeTy.c,k];refine aB (qD _ s.name) rfl ?_;simp [go_sem,seval];refine bA (λj=>?_) (λj=>?_)
 .simp at j;simp [go_sem,seval,kY,aA k,j]
 .simp at j;simp [go_sem,seval];have w:=DQ (t.i.take i) 261 [.adr t.i[i].c] (λy=>decide (y.name=t.i[i].name)) (by simp [D.N,D.W,EdgeTy.W]) (by rw [D.W];exact xV _) (λy _=>NE t.i[i] y);refine ⟨⟨bZ,by cases t.i<;>simp [EdgeTy.c]⟩,sN w (by simp [JD,C1,fT,go_sem,EdgeTy.c,dI,List.map_take]) (by simp only [D.N,D.W,xV,EdgeTy.W];rfl) rfl ?_⟩;simp [go_sem,seval];refine bA (λp=>?_) (λp=>?_)
  .simp [go_sem,seval,kY,aA k,j,p]
  .simp [go_sem,seval];refine aB (l _) (by simp [D.N,D.W,m,n]) ?_;simp [go_sem,seval];refine aG (λ_=>l _) (λ_=>by simp [D.N,D.W,m,n]) ?_;simp [go_sem,seval];refine bA (λq=>?_) (λq=>?_)
   .have e:kY t i=6:=by
     simp only [kY,aA k];rw [if_neg (by simp [j]),if_neg (by simp [p]),if_neg (by intro h;simp at h;simp [h] at q)]
    simp [go_sem,seval];refine bA (λ_=>?_) (λh=>?_)
    .simp [go_sem,seval,e]
    .rw [q] at h;cases h
   .simp [go_sem,seval];refine aB (o _ _) rfl ?_;simp [go_sem,seval];refine aG (λ_=>o _ _) (λ_=>rfl) ?_;simp [go_sem,seval];refine bA (λr=>?_) (λr=>?_)
    .have e:kY t i=6:=by
      simp only [kY,aA k];rw [if_neg (by simp [j]),if_neg (by simp [p]),if_neg (by intro h;simp at h;simp [h] at r)]
     simp [go_sem,seval,e]
    .have e:kY t i=0:=by
      simp only [kY,aA k];rw [if_neg (by simp [j]),if_neg (by simp [p]),if_pos (by simp at q r ⊢;simp [q,r])]
     simp [go_sem,seval,e]
theorem yZ (t:Types)(j:Nat)(n:NodeTy)(h:iV t j=0)(a:t.h[j]?=some n):n.G<j:=by
 simp only [iV,a] at h;grind
def eZ (f:Nat->Int)(nm:Nat->ByteArray)(last:ByteArray × Int):Nat->Nat->ByteArray × Int
 | _,0=>last
 | k,n+1=>if f k≠0 then (nm k,f k) else eZ f nm last (k+1) n
def Types.as (t:Types)(i:Nat):ByteArray:=match t.h[i]? with|some n=>n.name|none=>⟨#[]⟩
def Types.aj (t:Types)(i:Nat):ByteArray:=match t.i[i]? with|some n=>n.name|none=>⟨#[]⟩
def cQ (t:Types):ByteArray × Int :=
 if t.h.length=0 then (⟨#[]⟩,7)
 else if 12<t.h.length\/20<t.i.length then (⟨#[]⟩,3)
 else eZ (iV t) t.as (eZ (kY t) t.aj (⟨#[]⟩,0) 0 t.i.length) 0 t.h.length
theorem mD (t:Types)(z:t.ok):Pua 98 [t.d] (.tup [.str (cQ t).1,dI (cQ t).2]):=by
 refine aT (Tz.cK ⟨λt=>t==5||t==8,λ_=>[]⟩ func98 rfl ?_);simp [go_sem,seval,dI,Types.d,Types.c];intro A;refine bA (λq=>?_) (λq=>?_)
 .simp at q;simp [go_sem,seval,cQ,q]
 .simp at q;simp [go_sem,seval];intro _ _;refine bA (λx=>?_) (λx=>?_)
  .have hb':12<t.h.length\/20<t.i.length:=by simp at x;omega
   simp [go_sem,seval,cQ,q,hb']
  .have hb':¬ (12<t.h.length\/20<t.i.length):=by simp at x;omega
   have e:cQ t=eZ (iV t) t.as (eZ (kY t) t.aj (⟨#[]⟩,0) 0 t.i.length) 0 t.h.length:=by simp [cQ,q,hb']
   simp [go_sem,seval];intro _;refine fR (ι:=Nat) (λi e H=>i<=t.h.length/\e 1=.adr t.c/\e 27=.list (t.h.map NodeTy.c)/\e 28=dI t.h.length/\e 29=dI i/\(∀ j,j<i->iV t j=0) /\
    eZ (iV t) t.as (eZ (kY t) t.aj (⟨#[]⟩,0) 0 t.i.length) i (t.h.length - i)=cQ t) (λi=>t.h.length - i) 0 (by simp [go_sem,seval,dI,Types.c,e]) ?_
   intro i G H ⟨F,p,v,u,o,y,b⟩;simp [go_sem,seval,u,o,dI,Types.c];refine f6 (λg=>?_) (λw=>?_)
   .simp [go_sem,seval,p,v,o,dI,Types.c,NodeTy.c,g];have k:=Qd t z i g (λj n B E=>yZ t j n (y j B) E);simp only [Types.d,Types.c,dI] at k;have f:eZ (iV t) t.as (eZ (kY t) t.aj (⟨#[]⟩,0) 0 t.i.length) i (t.h.length - i) =
      if iV t i≠0 then (t.as i,iV t i) else eZ (iV t) t.as (eZ (kY t) t.aj (⟨#[]⟩,0) 0 t.i.length) (i+1) (t.h.length - (i+1)):=by
     rw [(bZ:t.h.length - i=t.h.length - (i+1)+1),eZ]
    rw [f] at b;refine aB k (by simp [D.N,D.W,xI,xV]) ?_;simp [go_sem,seval];refine bA (λl=>?_) (λl=>?_)
    .have hc':iV t i≠0:=by simpa using l
     rw [if_pos hc'] at b;simp [go_sem,seval,<- b,Types.as,aA g]
    .have hc':¬ iV t i≠0:=by simpa using l
     rw [if_neg hc'] at b;simp [go_sem,seval,p,v,u,o,dI,Types.c];refine ⟨dK bZ bZ,i+1,bZ,bZ,bZ,λj B=>?_,b⟩;rcases bT j i with hj'|hj'
     .exact y j hj'
     .have:j=i:=bZ;subst this;simpa using hc'
   .simp [go_sem,seval,p,Types.c];intro _;rw [(bZ:t.h.length - i=0)] at b;simp only [eZ] at b;refine fR (ι:=Nat) (λi e H=>i<=t.i.length/\e 1=.adr t.c/\e 44=.list (t.i.map EdgeTy.c)/\e 45=dI t.i.length/\e 46=dI i /\
     eZ (kY t) t.aj (⟨#[]⟩,0) i (t.i.length - i)=cQ t) (λi=>t.i.length - i) 0 (by simp [go_sem,seval,p,dI,Types.c,b]) ?_
    intro i G H ⟨F,p,s,r,m,b⟩;simp [go_sem,seval,r,m,dI,Types.c];refine f6 (λg=>?_) (λw=>?_)
    .simp [go_sem,seval,p,s,m,dI,Types.c,EdgeTy.c,g];have k:=Qf t z i g;simp only [Types.d,Types.c,dI] at k;have f:eZ (kY t) t.aj (⟨#[]⟩,0) i (t.i.length - i) =
       if kY t i≠0 then (t.aj i,kY t i) else eZ (kY t) t.aj (⟨#[]⟩,0) (i+1) (t.i.length - (i+1)):=by
      rw [(bZ:t.i.length - i=t.i.length - (i+1)+1),eZ]
     rw [f] at b;refine aB k (by simp [D.N,D.W,xI,xV]) ?_;simp [go_sem,seval];refine bA (λl=>?_) (λl=>?_)
     .have hc':kY t i≠0:=by simpa using l
      rw [if_pos hc'] at b;simp [go_sem,seval,<- b,Types.aj,aA g]
     .have hc':¬ kY t i≠0:=by simpa using l
      rw [if_neg hc'] at b;simp [go_sem,seval,p,s,r,m,dI,Types.c];exact ⟨dK bZ bZ,i+1,bZ,bZ,bZ,b⟩
    .rw [(bZ:t.i.length - i=0)] at b;simp only [eZ] at b;simp [go_sem,seval,<- b]
theorem De (c:Int):Pua 339 [.int .u8 c] (.bool (jZ c)):=by
 refine aT (Tz.c0 func339 rfl ?_);simp [go_sem,seval,jZ,D.W];try omega
theorem vJ (c:Int):Pua 340 [.int .u8 c] (.bool (lJ c)):=by
 refine aT (Tz.c0 func340 rfl ?_);simp [go_sem,seval,lJ,D.W]
def w3 (digits:Bool)(c:Int):Bool:=lJ c||(!digits&&(jZ c||c==95))
theorem Ti (s:ByteArray)(i:Bool)(v:s.size<=1000000):Pua 341 [.str s,dI 0,.bool i] (dI (iG (w3 i) s)):=by
 refine aT (Tz.c0 func341 rfl ?_);simp [go_sem,seval,dI];refine fR (ι:=Nat) (λn e H=>H=.an/\n<=s.size/\e 0=.str s/\e 1=dI 0/\e 2=.bool i/\e 7=dI n/\(∀ j,j<n->w3 i (zB s j)=true)) (λn=>s.size - n) 0 (by simp [go_sem,seval,dI]) ?_;intro n e H ⟨u,t,m,l,r,k,q⟩;subst u;have p:((s.data[n]?.getD 0).toNat:Int)=zB s n:=rfl;simp [go_sem,seval,m,l,k,dI,p];refine ⟨dK bZ bZ,λ_=>dK bZ bZ,aG (λ_=>vJ _) (λ_=>rfl) ?_⟩;simp [go_sem,seval,m,l,r,k,dI,p];refine ⟨λ_ _ _=>dK bZ bZ,λh _ _=>h,aG (λ_=>De _) (λ_=>rfl) ?_⟩;simp [go_sem,seval,m,l,k,dI,p];refine ⟨λ_ _ _ _=>dK bZ bZ,λh _ _ _=>h,λa b c d=>⟨⟨⟨a,b⟩,c⟩,d⟩,λa b c=>⟨⟨a,b⟩,c⟩,λa b=>⟨a,b⟩,bA (λh=>?_) (λh=>?_)⟩
 .have hr:n<s.size/\w3 i (zB s n)=true:=by simpa [w3] using h
  simp [go_sem,seval,m,l,r,k,dI];refine ⟨dK bZ bZ,n+1,bZ,bZ,bZ,λj w=>?_⟩;rcases bT j n with hj'|hj'
  .exact q j hj'
  .have:j=n:=bZ;subst this;exact hr.2
 .have hr:n<s.size->w3 i (zB s n)=false:=by
   intro o;simp [o] at h;simp [w3];exact h
  simp [go_sem,seval,k,dI];rw [Kz _ s n q t hr]
theorem Ln (p:Nat->Bool)(n:Nat):∀ d k,k+d=n->(∀ j,1<=j->j<k->p j=true)->1<=k->∃ k,1<=k/\k<=n/\(∀ j,1<=j->j<k->p j=true)/\(k<n->p k=false)
 | 0,k,h,hp,h1=>⟨k,h1,bZ,hp,λh=>by omega⟩
 | d+1,k,h,hp,h1=>by
  cases hk:p k with
  | false=>exact ⟨k,h1,bZ,hp,λ_=>hk⟩
  | true =>
   refine Ln p n d (k+1) bZ (λj hj hlt=>?_) bZ;rcases bT j k with h|h
   .exact hp j hj h
   .have:j=k:=bZ;subst this;exact hk
theorem Mv (s:ByteArray)(m:1<=s.size)(y:s.size<=1000000):∃ n:Int,0<=n/\n≠1/\n<=s.size/\Pua 342 [.str s,dI 0] (dI n):=by
 obtain ⟨k,v,u,i,o⟩:=Ln (λj=>qK (zB s j)) s.size (s.size - 1) 1 bZ (λj h A=>by omega) bZ;refine ⟨if k<s.size/\zB s k=34 then k+1 else 0,by split<;>omega,by split<;>omega,by split<;>omega,aT (Tz.c0 func342 rfl ?_)⟩;simp [go_sem,seval,dI];refine fR (ι:=Nat) (λn e H=>H=.an/\1<=n/\n<=k/\e 0=.str s/\e 1=dI 0/\e 5=dI n) (λn=>s.size - n) 1 (by simp [go_sem,seval,dI];omega) ?_;intro n e H ⟨x,g,z,r,m,l⟩;subst x;have w:((s.data[n]?.getD 0).toNat:Int)=zB s n:=rfl;simp [go_sem,seval,r,m,l,dI];refine ⟨dK bZ bZ,bA (λd=>?_) (λp=>?_)⟩
 .simp at d;simp [go_sem,seval,r,m,l,dI,w];refine ⟨dK bZ bZ,d,bA (λf=>?_) (λf=>?_)⟩
  .simp at f;have c:n=k:=by
    rcases bT n k with h|h
    .have:=i n g h;simp [qK,f] at this
    .omega
   subst c;simp [go_sem,seval,l,dI];exact ⟨dK bZ bZ,λh=>absurd f (h d)⟩
  .simp at f;simp [go_sem,seval];refine bA (λq=>?_) (λq=>?_)
   .simp at q;have c:n=k:=by
     rcases bT n k with h|h
     .have:=i n g h;simp [qK] at this;omega
     .omega
    subst c;simp [go_sem,seval];omega
   .simp at q;have c:n<k:=by
     rcases bT n k with h|h
     .exact h
     .have hh:n=k:=bZ;subst hh;have:=o d;simp [qK] at this;omega
    simp [go_sem,seval,r,m,l,dI];exact ⟨dK bZ bZ,n+1,bZ,bZ,bZ,bZ⟩
 .simp at p;simp [go_sem,seval];omega
def signs:List ByteArray:=KK++[⟨#[123]⟩,⟨#[125]⟩,⟨#[40]⟩,⟨#[41]⟩,⟨#[91]⟩,⟨#[93]⟩,⟨#[44]⟩,⟨#[59]⟩,⟨#[58]⟩,⟨#[61]⟩,⟨#[43]⟩,⟨#[45]⟩,⟨#[42]⟩,⟨#[60]⟩,⟨#[62]⟩,⟨#[33]⟩,⟨#[38]⟩,⟨#[124]⟩,⟨#[46]⟩,⟨#[63]⟩]
theorem OA:Pua 343 [] (uZ signs):=by
 refine aT (Tz.c0 func343 rfl ?_);simp [go_sem,seval,uZ,cS,KK,signs]
theorem HK (s:ByteArray):Pua 287 [.agg [dI 1,.str s,dI 0]] (.str s):=by
 refine aT (Tz.c0 func287 rfl ?_);simp [go_sem,seval,dI]
theorem Qu:w3 false=qL:=by grind [w3, qL, Bool.or_assoc, Bool.or_comm]
def yQ (s l:ByteArray):Bool:=decide ((l.size:Int)<=s.size)&&decide (s.extract 0 l.size=l)
def BA (q:Int)(s:ByteArray):Int × ByteArray × Int × Int :=
  if (jZ (zB s 0)||lJ (zB s 0))=true then
    (if lJ (zB s 0)=true then (if 9<iG (w3 true) s then (0,⟨#[]⟩,0,3) else (2,s.extract 0 (iG (w3 true) s),iG (w3 true) s,0))
     else (if 20<iG (w3 false) s then (0,⟨#[]⟩,0,3) else (1,s.extract 0 (iG (w3 false) s),iG (w3 false) s,0)))
  else if zB s 0=34 then
    (if q=0 then (0,⟨#[]⟩,0,2) else if 60<q - 2 then (0,⟨#[]⟩,0,3) else (3,s.extract 1 (q - 1).toNat,q,0))
  else match signs.find? (yQ s) with
    | some l=>(4,l,l.size,0)
    | none=>(0,⟨#[]⟩,0,2)
theorem Tj (s:ByteArray)(W:1<=s.size)(U:s.size<=100000)(q:Int)(O:0<=q)(N:q≠1)(M:q<=s.size)(P:Pua 342 [.str s,dI 0] (dI q)) :
  Pua 288 [.str s,dI 0] (.tup [.agg [dI (BA q s).1,.str (BA q s).2.1,dI 0],dI (BA q s).2.2.1,dI (BA q s).2.2.2]):=by
 have S:((s.data[0]?.getD 0).toNat:Int)=zB s 0:=rfl;refine aT (Tz.cK ⟨λt=>t==4,λr=>match r with|22=>[(7,10),(8,10),(9,10)]|_=>[]⟩ func288 rfl ?_);simp [go_sem,seval,dI,S];refine ⟨bZ,aB (De _) rfl ?_⟩;simp [go_sem,seval];refine aG (λ_=>vJ _) (λ_=>rfl) ?_;simp [go_sem,seval];refine bA (λf=>?_) (λf=>?_)
 .simp [go_sem,seval];refine aB (vJ _) rfl ?_;simp [go_sem,seval];refine aB (Ti s _ bZ) rfl ?_;simp [go_sem,seval,dI];refine aB (vJ _) rfl ?_;simp [go_sem,seval];refine bA (λu=>?_) (λu=>?_)
  .simp [go_sem,seval];rw [u];have L:=Et (w3 true) s;refine bA (λh=>?_) (λh=>?_)
   .simp at h;simp [go_sem,seval,BA,u,(bZ:9<iG (w3 true) s)]
   .simp at h;simp [go_sem,seval,BA,u,(bZ:¬ 9<iG (w3 true) s)];exact ⟨dK bZ bZ,bZ⟩
  .have g:lJ (zB s 0)=false:=by simpa using u
   simp [go_sem,seval];rw [g];have L:=Et (w3 false) s;have o:jZ (zB s 0)=true:=by simpa [g] using f
   refine bA (λh=>?_) (λh=>?_)
   .simp at h;simp [go_sem,seval,BA,g,o,(bZ:20<iG (w3 false) s)]
   .simp at h;simp [go_sem,seval,BA,g,o,(bZ:¬ 20<iG (w3 false) s)];exact ⟨dK bZ bZ,bZ⟩
 .have hld':¬ (jZ (zB s 0)||lJ (zB s 0))=true:=by simp at f;simp [f]
  simp [go_sem,seval];refine bA (λd=>?_) (λd=>?_)
  .simp at d;simp [go_sem,seval];refine aB P rfl ?_;simp [go_sem,seval,dI];have e:BA q s=(if q=0 then (0,⟨#[]⟩,0,2) else if 60<q - 2 then (0,⟨#[]⟩,0,3) else (3,s.extract 1 (q - 1).toNat,q,0)):=by
    unfold BA;rw [if_neg hld',if_pos d]
   rw [e];refine bA (λp=>?_) (λp=>?_)
   .simp at p;simp [go_sem,seval,p]
   .simp at p;simp [go_sem,seval,p];refine ⟨dK bZ bZ,f6 (λC=>?_) (λC=>?_)⟩
    .simp [go_sem,seval,C]
    .simp [go_sem,seval,C];exact ⟨dK bZ bZ,dK bZ bZ,dK bZ bZ,bZ,bZ⟩
  .simp at d;simp [go_sem,seval];refine aB OA rfl ?_;simp [go_sem,seval];have e:BA q s=(match signs.find? (yQ s) with|some l=>(4,l,l.size,0)|none=>(0,⟨#[]⟩,0,2)):=by
    unfold BA;rw [if_neg hld',if_neg d]
   rw [e];refine fR (ι:=Nat) (λn e H=>(∃ E,H.get 0=some ⟨E,3,[[dI 0,.str ⟨#[]⟩,dI 0]],false⟩)/\n<=signs.length/\e 0=.str s/\e 1=dI 0/\e 4=.ptr 0 1 0 0/\e 12=uZ signs/\e 13=dI n/\(∀ j l,j<n->signs[j]?=some l->yQ s l=false)) (λn=>signs.length - n) 0 (by simp [go_sem,seval,dI]) ?_;intro n e H ⟨⟨E,B⟩,V,G,v,D,k,i,z⟩;simp [go_sem,seval,k,i,dI,uZ];intro F;refine f6 (λc=>?_) (λQ=>?_)
   .simp [go_sem,seval,G,v,k,i,dI,uZ,c,cS];have I:signs[n].size<=2:=(show ∀ l∈signs,l.size<=2 by decide) _ (aC c);refine ⟨dK bZ bZ,λ_=>dK bZ bZ,bA (λA=>?_) (λA=>?_)⟩
    .have m:yQ s signs[n]=true:=by simpa [yQ] using A
     have R:signs.find? (yQ s)=some signs[n]:=by
      rw [List.find?_eq_some_iff_getElem];refine ⟨m,n,c,rfl,λj y=>?_⟩;simpa using z j _ y (aA bZ)
     simp [go_sem,seval,D,k,i,dI,B,uZ,c,cS,R]
    .have m:yQ s signs[n]=false:=by simpa [yQ] using A
     simp [go_sem,seval,G,v,D,k,i,dI,B,uZ];have K:signs.length=25:=rfl;refine ⟨dK bZ bZ,n+1,bZ,bZ,bZ,λj l y o=>?_⟩;rcases bT j n with hj'|hj'
     .exact z j l hj' o
     .have:j=n:=bZ;subst this;rw [aA c] at o;cases o;exact m
   .simp [go_sem,seval,D,dI,B];have:signs.find? (yQ s)=none:=by
     rw [List.find?_eq_none];intro x J;obtain ⟨j,y,rfl⟩:=aO J;simpa using z j _ bZ (aA y)
    simp [this]
theorem UF (s:ByteArray)(b:¬ s.size=0)(q:Int):(decide ((BA q s).2.2.2=0)&&(BA q s).2.2.1==(s.size:Int)&&(BA q s).1==1)=mN s:=by
 unfold BA mN;by_cases a:jZ (zB s 0)=true
 .have hdg:lJ (zB s 0)=false:=by simp [jZ,lJ] at *;omega
  simp only [hdg,a,Qu];grind
 grind
theorem OB (s:ByteArray)(f:s.size<=100000):Pua 211 [.agg [dI 1,.str s,dI 0]] (.bool (mN s)):=by
 by_cases b:s.size=0
 .refine aT (Tz.cK ⟨λt=>t==4,λ_=>[]⟩ func211 rfl ?_);simp [go_sem,seval,dI];refine aB (HK s) rfl ?_;simp [go_sem,seval];refine bA (λh=>?_) (λh=>?_)
  .simp [go_sem,seval,mN,b]
  .simp [rZ,b] at h
 .obtain ⟨q,e,d,c,g⟩:=Mv s bZ bZ;refine aT (Tz.cK ⟨λt=>t==4,λ_=>[]⟩ func211 rfl ?_);simp [go_sem,seval,dI];refine aB (HK s) rfl ?_;simp [go_sem,seval];refine bA (λh=>?_) (λh=>?_)
  .simp [rZ,b] at h
  .simp [go_sem,seval];refine aB (Tj s bZ f q e d c g) rfl ?_;simp [go_sem,seval,dI];exact UF s b q
theorem qH (s:ByteArray)(a:s.size<=100000):Pua 123 [.str s] (.bool (mN s)):=by
 refine aT (Tz.c0 func123 rfl ?_);simp [go_sem,seval];refine aB (OB s a) rfl ?_;simp [go_sem,seval]
@[go_sem] theorem mO (l:Xa0):D.V (l.map cI)=true:=dU cI (λ_=>rfl) l
@[go_sem] theorem EJ (l:List Edge):D.V (l.map Edge.c)=true:=dU _ Edge.W l
theorem JY (xs:Xa0)(g:FuncId)(b:Xa2)(p:Int->Bool)(t:D.N b=true)(s:∀ x∈xs,Pure prog g (.int .i64 x :: b) (.bool (p x))) :
  Pua 263 [.list (xs.map cI),.fn g b] (dI (xP xs p)):=by
 refine aT (Tz.c0 func263 rfl ?_);simp [go_sem,seval,dI];intro l;refine fR (ι:=Nat) (λi e H=>H=.an/\i<=xs.length/\e 0=.list (xs.map cI)/\e 1=.fn g b/\e 7=dI xs.length/\e 8=dI i/\(∀ j x,j<i->xs[j]?=some x->p x=false)) (λi=>xs.length - i) 0 (by simp [go_sem,seval,dI]) ?_;intro i e H ⟨u,w,o,n,m,f,k⟩;subst u;simp [go_sem,seval,m,f,dI];refine f6 (λc=>?_) (λr=>?_)
 .have hgx:=s xs[i] (aC c);simp [go_sem,seval,o,n,f,dI,c,cI] at hgx ⊢;refine aB hgx (by simp [go_sem,t]) ?_;simp [go_sem,seval];refine bA (λh=>?_) (λh=>?_)
  .simp [go_sem,seval];rw [pP k c h]
  .simp [go_sem,seval,o,n,m,f,dI];refine ⟨dK bZ bZ,i+1,bZ,bZ,bZ,λj x q v=>?_⟩;grind
 .simp [go_sem,seval];rw [pQ λj x q=>k j x bZ]
theorem f5 (xs:Xa0)(g:FuncId)(a:Xa2)(p:Int->Bool)(c:D.N a=true)(d:D.W (.list (xs.map cI))=true)(e:∀ x∈xs,Pure prog g (.int .i64 x :: a) (.bool (p x))) :
  Pua 180 [.list (xs.map cI),.fn g a] (.bool (xs.any p)):=by
 refine aT (Tz.c0 func180 rfl ?_);simp [go_sem,seval];refine aB (JY xs g a p c e) (by simp only [D.N,d,iL];simp [D.W,c]) ?_;simp [go_sem,seval,dI,uM]
theorem Gp (xs:List Edge)(g:FuncId)(b:Xa2)(p:Edge->Bool)(v:D.N b=true)(u:∀ x∈xs,Pure prog g (.agg x.c :: b) (.bool (p x))) :
  Pua 286 [.list (xs.map Edge.c),.fn g b] (dI (xP xs p)):=by
 refine aT (Tz.c0 func286 rfl ?_);simp [go_sem,seval,dI];intro n;refine fR (ι:=Nat) (λi e H=>H=.an/\i<=xs.length/\e 0=.list (xs.map Edge.c)/\e 1=.fn g b/\e 7=dI xs.length/\e 8=dI i/\(∀ j x,j<i->xs[j]?=some x->p x=false)) (λi=>xs.length - i) 0 (by simp [go_sem,seval,dI]) ?_;intro i e H ⟨w,y,r,q,o,m,l⟩;subst w;simp [go_sem,seval,o,m,dI];refine f6 (λd=>?_) (λt=>?_)
 .have hgx:=u xs[i] (aC d);simp [go_sem,seval,r,q,m,dI,d,Edge.c] at hgx ⊢;refine aB hgx (by simp [go_sem,v]) ?_;simp [go_sem,seval];refine bA (λh=>?_) (λh=>?_)
  .simp [go_sem,seval];rw [pP l d h]
  .simp [go_sem,seval,r,q,o,m,dI];refine ⟨dK bZ bZ,i+1,bZ,bZ,bZ,λj x s k=>?_⟩;rcases bT j i with hj'|hj'
   .exact l j x hj' k
   .have:j=i:=bZ;subst this;rw [aA d] at k;cases k;exact h
 .simp [go_sem,seval];rw [pQ λj x s=>l j x bZ]
theorem mS (xs:List Edge)(g:FuncId)(a:Xa2)(p:Edge->Bool)(d:D.N a=true)(e:D.W (.list (xs.map Edge.c))=true)(f:∀ x∈xs,Pure prog g (.agg x.c :: a) (.bool (p x))) :
  Pua 206 [.list (xs.map Edge.c),.fn g a] (.bool (xs.any p)):=by
 refine aT (Tz.c0 func206 rfl ?_);simp [go_sem,seval];refine aB (Gp xs g a p d f) (by simp only [D.N,e,iL];simp [D.W,d]) ?_;simp [go_sem,seval,dI,uM]
def jE (n m:Int):Bool:=decide (0<=n)&&decide (n<=m)
theorem DC (n m:Int):Pua 205 [dI n,dI m] (.bool (jE n m)):=by
 refine aT (Tz.c0 func205 rfl ?_);simp [go_sem,seval,dI,jE]
def vR (x:Edge)(n:Int):Bool:=jE x.type 99&&jE x.B (n - 1)&&jE x.O (n - 1)
theorem Q8 (x:Edge)(n:Int)(g:0<=n)(f:n<=1000000):Pua 208 [.agg x.c,dI n] (.bool (vR x n)):=by
 have e:∀ a b:Int,Pua 205 [.int .i64 a,.int .i64 b] (.bool (jE a b)):=DC;refine aT (Tz.c0 func208 rfl ?_);simp [go_sem,seval,dI,Edge.c];refine aB (e _ _) rfl ?_;simp [go_sem,seval];refine ⟨λ_=>dK bZ bZ,aG (λ_=>e _ _) (λ_=>rfl) ?_⟩;simp [go_sem,seval];refine ⟨λ_ _=>dK bZ bZ,aG (λ_=>e _ _) (λ_=>rfl) ?_⟩;simp [go_sem,seval,vR]
theorem MQ (n:Int):Pua 204 [.int .i64 n] (.bool (!jE n 99)):=by
 have c:∀ a b:Int,Pua 205 [.int .i64 a,.int .i64 b] (.bool (jE a b)):=DC;refine aT (Tz.c0 func204 rfl ?_);simp [go_sem,seval];refine aB (c _ _) rfl ?_;simp [go_sem,seval]
theorem MP (g:Graph)(d:g.h.length<=1000000)(x:Edge):Pua 207 [.agg x.c,.adr g.c] (.bool (!vR x g.h.length)):=by
 have b:=Q8 x g.h.length bZ bZ;refine aT (Tz.c0 func207 rfl ?_);simp [go_sem,seval,dI,Edge.c,Graph.c,dLI];intro _;refine aB b rfl ?_;simp [go_sem,seval]
def graphF (g:Graph):Int :=
 if 40<g.h.length\/80<g.i.length then 3
 else if (g.h.any λn=>!jE n 99)=true then 6
 else if (g.i.any λx=>!vR x g.h.length)=true then 6
 else 0
theorem lK (g:Graph):Pua 117 [g.d] (dI (graphF g)):=by
 refine aT (Tz.c0 func117 rfl ?_);simp [go_sem,seval,dI,Graph.d,Graph.c,dLI];intro _ _;refine bA (λh=>?_) (λh=>?_)
 .have h':40<g.h.length\/80<g.i.length:=by simp at h;omega
  simp [go_sem,seval,graphF,h']
 .have h':¬ (40<g.h.length\/80<g.i.length):=by simp at h;omega
  have l:=f5 g.h 204 [] (λn=>!jE n 99) rfl (by simp [D.W,mO]) (λn _=>MQ n);have j:=mS g.i 207 [.adr g.c] (λx=>!vR x g.h.length) (by simp [D.N,D.W,Graph.c,mO,EJ,dLI]) (by simp [D.W,EJ]) (λx _=>MP g bZ x);simp only [Graph.c,dLI] at j;simp [go_sem,seval];refine aB l (by simp [D.N,D.W,mO]) ?_;simp [go_sem,seval];refine bA (λb=>?_) (λb=>?_)
  .have e:graphF g=6:=by unfold graphF;rw [if_neg h',if_pos b]
   simp [go_sem,seval,e]
  .simp [go_sem,seval];refine aB j (by simp [D.N,D.W,mO,EJ]) ?_;simp [go_sem,seval];refine bA (λi=>?_) (λi=>?_)
   .have e:graphF g=6:=by unfold graphF;rw [if_neg h',if_neg (by rw [b];simp),if_pos i]
    simp [go_sem,seval,e]
   .have e:graphF g=0:=by unfold graphF;rw [if_neg h',if_neg (by rw [b];simp),if_neg (by rw [i];simp)]
    simp [go_sem,seval,e]
theorem HI (n:Int):Pua 243 [.int .i64 n] (.bool (jE n 99)):=by
 refine aT (Tz.c0 func243 rfl ?_);simp [go_sem,seval,jE]
theorem Ot (x:Edge)(n:Int):Pua 244 [.agg x.c,.int .i64 n] (.bool (vR x n)):=by
 refine aT (Tz.c0 func244 rfl ?_);simp [go_sem,seval,Edge.c,dI];refine aB (HI _) rfl ?_;simp [go_sem,seval,vR,jE];grind
theorem dZ {α:Type}(l:List α)(p:α->Bool)(i:Nat)(a:i<l.length):(l.take (i+1)).any p=((l.take i).any p||p l[i]):=by
 rw [aF a,CL];simp
theorem mF (g:Graph):Pua 159 [g.d] (dI (graphF g)):=by
 refine aT (Tz.c0 func159 rfl ?_);simp [go_sem,seval,dI,Graph.d,Graph.c,dLI];intro _ _;refine bA (λh=>?_) (λh=>?_)
 .have h':40<g.h.length\/80<g.i.length:=by simp at h;omega
  simp [go_sem,seval,graphF,h']
 .have h':¬ (40<g.h.length\/80<g.i.length):=by simp at h;omega
  simp [go_sem,seval];refine fR (ι:=Nat) (λi e H=>i<=g.h.length/\e 1=.adr g.c/\e 3=dI i/\((g.h.take i).any λn=>!jE n 99)=false) (λi=>g.h.length - i) 0 (by simp [go_sem,seval,dI,Graph.c,dLI]) ?_;intro i e H ⟨v,l,t,r⟩;simp [go_sem,seval,l,t,dI,Graph.c,dLI];intro _;refine f6 (λf=>?_) (λp=>?_)
  .simp [go_sem,seval,l,t,dI,Graph.c,dLI,f,cI];refine aB (HI _) rfl ?_;simp [go_sem,seval];refine bA (λm=>?_) (λm=>?_)
   .have hany:(g.h.any λn=>!jE n 99)=true:=bF.2 ⟨_,aC f,m⟩;have e:graphF g=6:=by unfold graphF;rw [if_neg h',if_pos hany]
    simp [go_sem,seval,e]
   .simp [go_sem,seval,l,t,dI,Graph.c,dLI];refine ⟨dK bZ bZ,i+1,bZ,bZ,bZ,?_⟩;have:=dZ g.h (λn=>!jE n 99) i f;rw [r,m] at this;simpa using this
  .simp [go_sem,seval];have o:(g.h.any λn=>!jE n 99)=false:=by rw [(bZ:i=g.h.length),uX] at r;exact r
   refine fR (ι:=Nat) (λk e H=>k<=g.i.length/\e 1=.adr g.c/\e 4=dI k/\((g.i.take k).any λx=>!vR x g.h.length)=false) (λk=>g.i.length - k) 0 (by simp [go_sem,seval,l,dI,Graph.c,dLI]) ?_;intro k e H ⟨u,l,s,q⟩;simp [go_sem,seval,l,s,dI,Graph.c,dLI];intro _;refine f6 (λf=>?_) (λp=>?_)
   .have hr:=Ot g.i[k] g.h.length;simp only [Edge.c,dI] at hr;simp [go_sem,seval,l,s,dI,Graph.c,dLI,f,Edge.c];refine aI hr rfl ?_;simp [go_sem,seval];refine bA (λm=>?_) (λm=>?_)
    .have hany:(g.i.any λx=>!vR x g.h.length)=true:=bF.2 ⟨_,aC f,m⟩;have e:graphF g=6:=by unfold graphF;rw [if_neg h',if_neg (by rw [o];simp),if_pos hany]
     simp [go_sem,seval,e]
    .simp [go_sem,seval,l,s,dI,Graph.c,dLI];refine ⟨dK bZ bZ,k+1,bZ,bZ,bZ,?_⟩;have:=dZ g.i (λx=>!vR x g.h.length) k f;rw [q,m] at this;simpa using this
   .have hb':(g.i.any λx=>!vR x g.h.length)=false:=by rw [(bZ:k=g.i.length),uX] at q;exact q
    have e:graphF g=0:=by unfold graphF;rw [if_neg h',if_neg (by rw [o];simp),if_neg (by rw [hb'];simp)]
    simp [go_sem,seval,e]
attribute [go_sem] dI dLI uZ cI cS Attr.c NodeTy.c EdgeTy.c Types.c Types.d Edge.c Graph.c Graph.d
theorem CE (a b:Xa2):D.N (a++b)=(D.N a&&D.N b):=by
 induction a with
 | nil=>simp [D.N]
 | cons x a c=>simp [D.N,c,gA]
@[go_sem] theorem XP (a b:Xa1):D.V (a++b)=(D.V a&&D.V b):=by
 induction a with
 | nil=>simp [D.V]
 | cons x a c=>simp [D.V,c,gA]
attribute [go_sem] CE
def inF (n low high:Int):Bool:=decide (low<=n)&&decide (n<=high)
theorem o6 (n b a:Int):Pua 188 [dI n,dI b,dI a] (.bool (inF n b a)):=by
 refine Tz.p0 func188 rfl λQ c Y=>?_;have Y:=wa Y @inF.eq_1;exact wo (h:=c _ _ wy)
theorem OS {l:List ByteArray}{i:Nat}(e:i<l.length):mem (l.take i) l[i]=true↔∃ j,j<i/\l[j]?=some l[i]:=by
 rw [mem_iff,Gb];constructor
 .rintro ⟨j,d,b⟩;have a:j<l.length:=bZ;exact ⟨j,bZ,by rw [aA a,b]⟩
 grind
theorem iR {p:Nat->Prop}{k:Nat}(h:∀ j,j<k->p j)(hk:p k):∀ j,j<k+1->p j:=λj hj=>by
 rcases bT j k with h'|h'
 .exact h j h'
 .have:j=k:=bZ;subst this;exact hk
theorem Ov (l:List ByteArray)(y:∀ s∈l,s.size<=100000):Pua 269 [uZ l] (dI (pI l)):=by
 refine Tz.p0 func269 rfl λQ m Y=>?_;refine dW (λB=>?_) λB=>?_
 .exact wv (h:=m _ _ (by simp [go_sem,pI,(bZ:20<l.length)]))
 .refine wv (h:=bC (λi e H=>(e 0=uZ l/\e 3=dI i)/\(i<=l.length)/\(oT (l.take i) (l.drop i)=pI l)) (λi=>l.length - i) 0 ⟨wg,wi,(by simp [pI,(bZ:¬ 20<l.length)])⟩ λI t i e H q=>?_);obtain ⟨D,F,d⟩:=q;have Y:=wa Y D;refine dW (λa=>?_) λa=>?_
  .rw [fI a] at d;have x:=y _ (aC a);have Y:=wa Y a;refine wo (h:=aB (qH _ (by assumption)) wl ?_);refine dW (λn=>?_) λn=>?_
   .exact wv (h:=m _ _ (by rw [<- d];simp [go_sem,oT,n]))
   .refine wv (h:=bC (λk e H=>(e 0=uZ l/\e 3=dI i/\e 4=dI k)/\(k<=i)/\(∀ j,j<k->l[j]?≠some l[i])) (λk=>i - k) 0 ⟨wg,wi,(by intro j z;omega)⟩ λG r k e H p=>?_);obtain ⟨C,E,c⟩:=p;have Y:=wa Y C;refine c8 (λu=>?_) λu=>?_
    .have hkl:k<l.length:=bZ;have Y:=xa1 Y u hkl;refine dW (λb=>?_) λb=>?_
     .exact wv (h:=m _ _ (by have f:mem (l.take i) l[i]=true:=(OS a).2 ⟨k,u,by rw [aA hkl,b]⟩;rw [<- d];simp [go_sem,oT,n,f]))
     .exact wo (h:=wx r (k+1) ⟨wg,wj,(iR c (by rw [aA hkl];simpa using b))⟩)
    .have f:¬ mem (l.take i) l[i]=true:=λf=>by
      obtain ⟨j,z,A⟩:=(OS a).1 f;exact c j bZ A
     exact wo (h:=wx t (i+1) ⟨wg,wj,(by rw [<- d,oT,if_neg (by simp [n]),if_neg f,aF a])⟩)
  .exact wv (h:=m _ _ (by rw [<- d,(bZ:i=l.length)];simp [go_sem,oT]))
def F8 (x:Attr):Int :=
 if pI x.ah≠0 then pI x.ah
 else if (if 0<x.ah.length then decide (x.ax=0)&&decide (x.ay=x.ah.length - 1) else decide (-1000000<=x.ax)&&decide (x.ax<=x.ay)&&decide (x.ay<=1000000))=true then 0 else 6
theorem Gm (x:Attr)(g:x.ok):Pua 190 [.agg x.c] (dI (F8 x)):=by
 have i:=g.bL;have f:x.ah=[]->pI x.ah=0:=λh=>by rw [h];rfl
 refine Tz.p0 func190 rfl λQ a Y=>?_;refine dW (λd=>?_) λd=>?_
 .have hp:¬ 0<x.ah.length:=by simp [d]
  refine wo (h:=aB (o6 _ _ _) wl ?_);refine wo (h:=aG (λj=>o6 _ _ _) (λj=>wl) ?_);refine dW (λe=>?_) λe=>?_
  .exact wv (h:=a _ _ (by simp [go_sem,F8,f d,hp];simp [inF] at e;omega))
  .exact wv (h:=a _ _ (by simp [go_sem,F8,f d,hp];simp [inF] at e;omega))
 .have hp:0<x.ah.length:=by cases l:x.ah<;>simp_all
  refine wv (h:=aB (Ov x.ah g.ah) wl ?_);refine c8 (λb=>?_) λb=>?_
  .exact wv (h:=a _ _ (by simp [go_sem,F8,b]))
  .refine dW (λk=>?_) λk=>?_
   .exact wv (h:=a _ _ (by simp [go_sem,F8,b,hp];omega))
   .exact wv (h:=a _ _ (by simp [go_sem,F8,b,hp];omega))
theorem EV (t:Types)(a:Nat)(b:a<t.h.length)(c:parentsOK t.h a) :
  t.y a=(if 0<=t.h[a].G then t.y t.h[a].G.toNat else [])++t.h[a].y:=by
 have f:=c a _ (bD _) (aA b);by_cases d:0<=t.h[a].G
 .have hlt:t.h[a].G.toNat<a:=bZ;have:=F5 t.h t.h[a].G.toNat a (t.h[a].G.toNat+1) (λj m h g=>c j m bZ g) hlt bZ;simp [Types.y,n9,aA b,d,this]
 .simp [Types.y,n9,aA b,d]
theorem Mu (t:Types)(a:Int)(b:a<0):Pua 189 [t.d,dI a] (.list []):=by
 refine Tz.pK ⟨λt=>t==7,λr=>match r with|3=>[(0,1),(0,2),(0,3),(0,5),(0,6),(0,7),(0,8),(0,10),(9,10),(0,11),(9,11),(0,13),(9,13),(0,14),(9,14),(0,15),(9,15)]|_=>[]⟩ func189 rfl (λQ c=>?_);have Y:=b;exact wv (h:=c _ _ wy)
theorem FC (t:Types)(i:t.ok):∀ a:Nat,a<t.h.length->parentsOK t.h a->Pua 189 [t.d,dI a] (.list ((t.y a).map Attr.c)):=by
 intro a;induction a using Nat.strongRecOn with
 | _ a ih =>
 intro f g;have o:=g a _ (bD _) (aA f);have b:=uT t.h (λn p=>(i.h n p).bL) (a+1) a;have k:=i.br;have e:=EV t a f g;have v:Pua 189 [t.d,dI t.h[a].G] (.list (((if 0<=t.h[a].G then t.y t.h[a].G.toNat else [])).map Attr.c)):=by
  by_cases l:0<=t.h[a].G
  .rw [if_pos l];have:=ih t.h[a].G.toNat bZ bZ (λj m y q=>g j m bZ q);grind
  .rw [if_neg l];exact Mu t _ bZ
 have s:(if 0<=t.h[a].G then t.y t.h[a].G.toNat else []).length+t.h[a].y.length<=2000000:=by
  have x:(t.y a).length<=1000 * (a+1):=b;rw [e,aQ] at x;omega
 rw [e];generalize (if 0<=t.h[a].G then t.y t.h[a].G.toNat else [])=u at *;refine Tz.pK ⟨λt=>t==7,λr=>match r with|3=>[(0,1),(0,2),(0,3),(0,5),(0,6),(0,7),(0,8),(0,10),(9,10),(0,11),(9,11),(0,13),(9,13),(0,14),(9,14),(0,15),(9,15)]|_=>[]⟩ func189 rfl (λQ w=>?_);have Y:=xa1 (aA f) f ((show ¬ ((a:Int)<0) by omega));refine wo (h:=aI (v) wl ?_);exact wo (h:=w _ _ wy)
theorem FB (b a:Int):Pua 191 [dI b,dI a] (.bool (boundedF b a)):=by
 refine Tz.p0 func191 rfl λQ d Y=>?_;refine wo (h:=aB (o6 _ _ _) wl ?_);refine wo (h:=aG (λc=>o6 _ _ _) (λc=>wl) ?_);have Y:=xa1 Y @boundedF.eq_1 @inF.eq_1;exact wo (h:=d _ _ wy)
theorem v7 {α:Type}{l:List α}{p:α->Bool}{k i:Nat}(hk:k<i)(hl:k<l.length)(h:p l[k]=true):(l.take i).any p=true :=
 bF.2 ⟨l[k],Gb.2 ⟨k,bZ,rfl⟩,h⟩
theorem tM {α:Type}{l:List α}{p:α->Bool}{k i:Nat}(h:(l.take k).any p=false)(a:k=i):(l.take i).any p=false:=by rw [<- a];exact h
def B6 (l:List Attr)(k:Nat):Int:=match l[k]? with|some x=>dX x (l.take k)|none=>0
theorem VF {l:List Attr}{k:Nat}(h:k<l.length):B6 l k=if mN l[k].name=false then 2 else if ((l.take k).any λy=>decide (y.name=l[k].name))=true then 5 else F8 l[k]:=by
 unfold B6;rw [aA h];rfl
theorem fE (f:Nat->Int){k n:Nat}(h:k<n):bS f k (n - k)=if f k≠0 then f k else bS f (k+1) (n - (k+1)):=by
 rw [(bZ:n - k=n - (k+1)+1),bS]
theorem Dp (t:Types)(i:Nat)(a:i<t.h.length):iV t i =
  if mN t.h[i].name=false then 2
  else if ((t.h.take i).any λm=>decide (m.name=t.h[i].name))=true then 5
  else if (decide (t.h[i].G < -1)||decide ((i:Int)<=t.h[i].G))=true then 6
  else if 4<t.h[i].y.length then 3
  else if 8<(t.y i).length then 3
  else bS (B6 (t.y i)) ((t.y i).length - t.h[i].y.length) t.h[i].y.length:=by
 unfold iV;rw [aA a];rfl
theorem QL (t:Types)(B:t.ok)(i:Nat)(q:i<t.h.length)(hp:∀ j n,j<i->t.h[j]?=some n->n.G<j):Pua 108 [t.d,dI i] (dI (iV t i)):=by
 have K:=B.h _ (aC q);have Z:=B.br;have F:=Dp t i q;have C:∀ x∈t.y i,x.ok:=yE t.h B.h _ _;have a1:=uT t.h (λn D=>(B.h n D).bL) (i+1) i;have a0:t.h[i].y.length<=(t.y i).length:=by simp [Types.y,n9,aA q]
 refine Tz.pK ⟨λt=>t==5,λ_=>[]⟩ func108 rfl (λQ l=>?_);have Y:=wa (aA q) q;refine wo (h:=aB (qH _ K.name) wl ?_);refine dW (λw=>?_) λw=>?_
 .exact wv (h:=l _ _ (.inl (by simp [go_sem,F,w])))
 .refine wv (h:=bC (λk e H=>(e 1=dI i/\e 2=.adr t.c/\e 5=.ptr 0 1 0 0/\e 6=dI k)/\(H.get 0=some ⟨112,4,[t.h[i].c],false⟩)/\(0<H.next)/\(k<=i)/\(((t.h.take k).any λm=>decide (m.name=t.h[i].name))=false)) (λk=>i - k) 0 ⟨wg,wn,wn,wi,eG⟩ λI0 R k e H N=>?_);obtain ⟨E0,G,A,hk,b⟩:=N;have Y:=xa2 Y E0 G (bP A);refine c8 (λV=>?_) λV=>?_
  .have hkl:k<t.h.length:=bZ;have Y:=xa1 Y V hkl;refine dW (λU=>?_) λU=>?_
   .exact wv (h:=l _ _ (.inl (by have r:=v7 (p:=λm:NodeTy=>decide (m.name=t.h[i].name)) V hkl (eL U);rw [F,if_neg (by simp [w]),if_pos r];simp [go_sem])))
   .exact wo (h:=wx R (k+1) ⟨wg,wn,wn,wj,(by rw [dZ _ _ _ hkl,b];simpa using U)⟩)
  .have r:=tM b (bZ:k=i);refine wo (h:=aB (o6 _ _ _) wl ?_);refine dW (λT=>?_) λT=>?_
   .exact wv (h:=l _ _ (.inl (by rw [F,if_neg (by simp [w]),if_neg (by simp [r]),if_pos (by simp [inF] at T;simp;omega)];simp [go_sem])))
   .have hr:¬ (decide (t.h[i].G < -1)||decide ((i:Int)<=t.h[i].G))=true:=by simp [inF] at T;simp;omega
    have J:parentsOK t.h i:=λj n hj D=>by
     rcases bT j i with h|h
     .exact hp j n h D
     .have:j=i:=bZ;subst this;rw [aA q] at D;cases D;simp at hr;omega
    refine wv (h:=aB (FC t B i q J) wl ?_);refine dW (λW=>?_) λW=>?_
    .exact wv (h:=l _ _ (.inl (by rw [F,if_neg (by simp [w]),if_neg (by simp [r]),if_neg hr];simp [go_sem];omega)))
    .have hF2:iV t i=bS (B6 (t.y i)) ((t.y i).length - t.h[i].y.length) t.h[i].y.length:=by rw [F,if_neg (by simp [w]),if_neg (by simp [r]),if_neg hr,if_neg bZ,if_neg bZ]
     refine wo (h:=bC (λk e H=>(e 1=dI i/\e 2=.adr t.c/\e 7=.list ((t.y i).map Attr.c)/\e 8=dI k)/\(k<=(t.y i).length)/\(bS (B6 (t.y i)) k ((t.y i).length - k)=iV t i)) (λk=>(t.y i).length - k) ((t.y i).length - t.h[i].y.length) ⟨wg,bZ,(by rw [hF2];congr 1;omega)⟩ λI2 P k e H M=>?_);obtain ⟨E2,hk,E⟩:=M;have Y:=wa Y E2;refine dW (λa=>?_) λa=>?_
     .have hst:=fE (B6 (t.y i)) a;rw [E] at hst;have S:=VF a;have Y:=wa Y a;refine wo (h:=aB (qH _ (C _ (aC a)).name) wl ?_);refine dW (λg=>?_) λg=>?_
      .refine wv (h:=?_);have f:B6 (t.y i) k=2:=by rw [S,if_pos (by simp [g])]
       exact l _ _ (.inl (by rw [hst,f];simp [go_sem]))
      .refine wv (h:=bC (λj e H=>(e 1=dI i/\e 2=.adr t.c/\e 7=.list ((t.y i).map Attr.c)/\e 8=dI k/\e 9=dI j)/\(j<=k)/\((((t.y i).take j).any λy=>decide (y.name=(t.y i)[k].name))=false)) (λj=>k - j) 0 ⟨wg,wi,eG⟩ λI4 O j e H L=>?_);obtain ⟨E4,hj,b⟩:=L;have Y:=wa Y E4;refine c8 (λv=>?_) λv=>?_
       .have hjl:j<(t.y i).length:=bZ;have Y:=xa1 Y v hjl;refine dW (λu=>?_) λu=>?_
        .refine wv (h:=?_);have r:=v7 (p:=λy:Attr=>decide (y.name=(t.y i)[k].name)) v hjl (eL u);have f:B6 (t.y i) k=5:=by rw [S,if_neg (by simp [g]),if_pos r]
         exact l _ _ (.inl (by rw [hst,f];simp [go_sem]))
        .exact wo (h:=wx O (j+1) ⟨wg,wj,(by rw [dZ _ _ _ hjl,b];simpa using u)⟩)
       .have hb2:=tM b (bZ:j=k);have f:B6 (t.y i) k=F8 (t.y i)[k]:=by rw [S,if_neg (by simp [g]),if_neg (by simp [hb2])]
        rw [f] at hst;refine wo (h:=aB (Gm _ (C _ (aC a))) wl ?_);refine dW (λs=>?_) λs=>?_
        .exact wv (h:=l _ _ (.inl (by rw [hst,if_pos (eL s)];simp [go_sem])))
        .exact wo (h:=wx P (k+1) ⟨wg,wj,(by rw [if_neg (by simp [s])] at hst;rw [<- hst])⟩)
     .exact wv (h:=l _ _ (.inl (by rw [<- E,(bZ:(t.y i).length - k=0)];rfl)))
theorem Pn (t:Types)(i:Nat)(a:i<t.i.length):kY t i =
  if mN t.i[i].name=false then 2
  else if ((t.i.take i).any λy=>decide (y.name=t.i[i].name))=true then 5
  else if (insideF t t.i[i].B&&insideF t t.i[i].O&&boundedF t.i[i].b3 t.i[i].bw&&boundedF t.i[i].cv t.i[i].cb)=true then 0 else 6:=by
 unfold kY;rw [aA a]
theorem y3 (t:Types)(a:Int):inF a 0 ((t.h.length:Int) - 1)=insideF t a:=by
 simp only [inF,insideF];rw [aU];simp;omega
theorem QM (t:Types)(w:t.ok)(i:Nat)(q:i<t.i.length):Pua 109 [t.d,dI i] (dI (kY t i)):=by
 have x:=w.i _ (aC q);have D:=w.br;have z:=w.dv;have u:=Pn t i q;refine Tz.pK ⟨λt=>t==5,λ_=>[]⟩ func109 rfl (λQ s=>?_);have Y:=wa (aA q) q;refine wo (h:=aB (qH _ x.name) wl ?_);refine dW (λn=>?_) λn=>?_
 .exact wv (h:=s _ _ (by simp [go_sem,u,n]))
 .refine wv (h:=bC (λk e H=>(e 1=dI i/\e 2=.adr t.c/\e 5=.ptr 0 1 0 0/\e 6=dI k)/\(H.get 0=some ⟨114,7,[t.i[i].c],false⟩)/\(0<H.next)/\(k<=i)/\(((t.i.take k).any λm=>decide (m.name=t.i[i].name))=false)) (λk=>i - k) 0 ⟨wg,wn,wn,wi,eG⟩ λL A k e H y=>?_);obtain ⟨F,o,g,J,j⟩:=y;have Y:=xa2 Y F o (bP g);refine c8 (λC=>?_) λC=>?_
  .have hkl:k<t.i.length:=bZ;have Y:=xa1 Y C hkl;refine dW (λB=>?_) λB=>?_
   .exact wv (h:=s _ _ (by have r:=v7 (p:=λm:EdgeTy=>decide (m.name=t.i[i].name)) C hkl (eL B);rw [u,if_neg (by simp [n]),if_pos r];simp [go_sem]))
   .exact wo (h:=wx A (k+1) ⟨wg,wn,wn,wj,(by rw [dZ _ _ _ hkl,j];simpa using B)⟩)
  .have r:=tM j (bZ:k=i);refine wo (h:=aB (o6 _ _ _) wl ?_);refine wo (h:=aG (λl=>o6 _ _ _) (λl=>wl) ?_);refine wo (h:=aG (λl=>FB _ _) (λl=>wl) ?_);refine wo (h:=aG (λl=>FB _ _) (λl=>wl) ?_);refine wo (h:=bA (λf=>?_) (λf=>?_))
   .skip
    simp only [y3] at f;exact wv (h:=s _ _ (by rw [u,if_neg (by simp [n]),if_neg (by simp [r])];revert f;cases insideF t t.i[i].B<;>cases insideF t t.i[i].O<;>cases boundedF t.i[i].b3 t.i[i].bw<;>cases boundedF t.i[i].cv t.i[i].cb<;>simp [go_sem]))
   .skip
    simp only [y3] at f;exact wv (h:=s _ _ (by rw [u,if_neg (by simp [n]),if_neg (by simp [r])];revert f;cases insideF t t.i[i].B<;>cases insideF t t.i[i].O<;>cases boundedF t.i[i].b3 t.i[i].bw<;>cases boundedF t.i[i].cv t.i[i].cb<;>simp [go_sem]))
theorem DF (f:Nat->Int)(b:Nat->ByteArray)(a:ByteArray × Int){k n:Nat}(h:k<n):eZ f b a k (n - k)=if f k≠0 then (b k,f k) else eZ f b a (k+1) (n - (k+1)):=by
 rw [(bZ:n - k=n - (k+1)+1),eZ]
theorem nY (t:Types)(l:t.ok):Pua 47 [t.d] (.tup [.str (cQ t).1,dI (cQ t).2]):=by
 have y:=l.br;have s:=l.dv;refine Tz.p0 func47 rfl λQ g Y=>?_;refine dW (λo=>?_) λo=>?_
 .exact wv (h:=g _ _ (by simp [go_sem,cQ,o]))
 .refine dW (λD=>?_) λD=>?_
  .exact wv (h:=g _ _ (by simp [go_sem,cQ,o,(bZ:12<t.h.length\/20<t.i.length)]))
  .have e:cQ t=eZ (iV t) t.as (eZ (kY t) t.aj (⟨#[]⟩,0) 0 t.i.length) 0 t.h.length:=by simp only [cQ];rw [if_neg (eL o),if_neg bZ]
   refine wv (h:=bC (λi e H=>(e 1=.adr t.c/\e 4=dI i)/\(i<=t.h.length)/\(∀ j,j<i->iV t j=0)/\(eZ (iV t) t.as (eZ (kY t) t.aj (⟨#[]⟩,0) 0 t.i.length) i (t.h.length - i)=cQ t)) (λi=>t.h.length - i) 0 ⟨wg,wi,(by intro j x;omega),(by rw [e];rfl)⟩ λI v i e H r=>?_);obtain ⟨F,C,w,a⟩:=r;have Y:=wa Y F;refine dW (λk=>?_) λk=>?_
   .have hst:=a;rw [DF _ _ _ k] at hst;have Y:=wa Y k;refine wv (h:=aB (QL t l i k (λj n x B=>yZ t j n (w j x) B)) wl ?_);refine c8 (λm=>?_) λm=>?_
    .exact wo (h:=g _ _ (by rw [if_pos (eL m)] at hst;simp [go_sem,<- hst,Types.as,aA k]))
    .exact wo (h:=wx v (i+1) ⟨wg,wj,(iR w (eL m)),(by rw [if_neg (eL m)] at hst;exact hst)⟩)
   .have hE:eZ (kY t) t.aj (⟨#[]⟩,0) 0 t.i.length=cQ t:=by rw [<- a,(bZ:t.h.length - i=0)];rfl
    refine wv (h:=bC (λi e H=>(e 1=.adr t.c/\e 6=dI i)/\(i<=t.i.length)/\(eZ (kY t) t.aj (⟨#[]⟩,0) i (t.i.length - i)=cQ t)) (λi=>t.i.length - i) 0 ⟨wg,wi,(hE)⟩ λG u i e H q=>?_);obtain ⟨E,C,a⟩:=q;have Y:=wa Y E;refine dW (λb=>?_) λb=>?_
    .have hst:=a;rw [DF _ _ _ b] at hst;have Y:=wa Y b;refine wv (h:=aB (QM t l i b) wl ?_);refine c8 (λf=>?_) λf=>?_
     .exact wo (h:=g _ _ (by rw [if_pos (eL f)] at hst;simp [go_sem,<- hst,Types.aj,aA b]))
     .exact wo (h:=wx u (i+1) ⟨wg,wj,(by rw [if_neg (eL f)] at hst;exact hst)⟩)
    .exact wv (h:=g _ _ (by rw [<- a,(bZ:t.i.length - i=0)];simp [go_sem,eZ]))
theorem tH {f:Nat->Int}{nm:Nat->ByteArray}{last:ByteArray × Int}:∀ (n k:Nat),(eZ f nm last k n).2=0->(∀ j,k<=j->j<k+n->f j=0)/\last.2=0
 | 0,k,h=>⟨λj h1 h2=>by omega,h⟩
 | n+1,k,h=>by
  unfold eZ at h;split at h
  .rename_i hne;exact absurd h hne
  .rename_i hz;obtain ⟨a,b⟩:=tH n (k+1) h;refine ⟨λj h1 h2=>?_,b⟩;rcases Nat.eq_or_lt_of_le h1 with h3|h3
   .subst h3;exact bH λhne=>hz hne
   .exact a j h3 bZ
structure Types.av (t:Types):Prop where
 ne:0<t.h.length
 br:t.h.length<=12
 dv:t.i.length<=20
 G:∀ (j:Nat) (n:NodeTy),t.h[j]?=some n->n.G<j
 ax:∀ (j:Nat) (n:NodeTy),t.h[j]?=some n->-1<=n.G
 y:∀ j,j<t.h.length->(t.y j).length<=8
 dw:∀ x∈t.i,insideF t x.B=true/\insideF t x.O=true
theorem oZ {t:Types}(h:(cQ t).2=0):t.av:=by
 unfold cQ at h;split at h
 .simp at h
 .rename_i h0;split at h
  .simp at h
  .rename_i h1;obtain ⟨i,f⟩:=tH _ _ h;obtain ⟨f,_⟩:=tH _ _ f;have b:∀ j (a:j<t.h.length),iV t j=0:=λj a=>i j bZ bZ;refine ⟨bZ,bZ,bZ,λj n e=>?_,λj n e=>?_,λj a=>?_,λx g=>?_⟩
   .exact yZ t j n (b j (aK.1 e).1) e
   .have a:=(aK.1 e).1;have d:=b j a;rw [Dp t j a] at d;grind
   .have d:=b j a;rw [Dp t j a] at d;grind
   .obtain ⟨j,a,rfl⟩:=aO g;have d:=f j bZ bZ;rw [Pn t j a] at d;grind
theorem Types.av.ap {t:Types}(h:t.av)(a:Nat):parentsOK t.h a:=λj n _ hn=>h.G j n hn
def given2F (t:Types)(a b:Int):Int:=if (cQ t).2≠0 then (cQ t).2 else if (insideF t a&&insideF t b)=true then 0 else 6
theorem Az (t:Types)(j:t.ok)(a b:Int):Pua 253 [t.d,dI a,dI b] (dI (given2F t a b)):=by
 have k:=j.br;refine Tz.p0 func253 rfl λQ i Y=>?_;refine wv (h:=aB (nY t j) wl ?_);refine c8 (λe=>?_) λe=>?_
 .have Y:=xa1 Y e @given2F.eq_1;exact wv (h:=i _ _ wy)
 .refine wo (h:=aB (o6 _ _ _) wl ?_);refine wo (h:=aG (λl=>o6 _ _ _) (λl=>wl) ?_);refine wo (h:=bA (λc=>?_) (λc=>?_))
  .skip
   simp only [y3] at c;exact wv (h:=i _ _ (by revert c;cases g:insideF t a<;>cases f:insideF t b<;>simp [go_sem,given2F,e,g,f]))
  .skip
   simp only [y3] at c;exact wv (h:=i _ _ (by revert c;cases g:insideF t a<;>cases f:insideF t b<;>simp [go_sem,given2F,e,g,f]))
def givenF (t:Types)(l:Xa0):Int:=if (cQ t).2≠0 then (cQ t).2 else if (l.any λa=>!insideF t a)=true then 6 else 0
theorem LU (t:Types)(a:Int):Pua 327 [dI a,.adr t.c] (.bool (!insideF t a)):=by
 refine Tz.p0 func327 rfl λQ b Y=>?_;have Y:=wa Y @insideF.eq_1;exact wo (h:=b _ _ wy)
theorem Af (t:Types)(g:t.ok)(l:Xa0):Pua 265 [t.d,dLI l] (dI (givenF t l)):=by
 refine Tz.p0 func265 rfl λQ e Y=>?_;refine wv (h:=aB (mD t g) wl ?_);refine c8 (λb=>?_) λb=>?_
 .have Y:=xa1 Y b @givenF.eq_1;exact wv (h:=e _ _ wy)
 .refine wv (h:=aB (f5 l 327 [.adr t.c] (λa=>!insideF t a) (by simp [go_sem]) (by simp [go_sem]) (λa _=>LU t a)) wl ?_);refine c8 (λf=>?_) λf=>?_
  .have Y:=xa2 Y b f @givenF.eq_1;exact wv (h:=e _ _ wy)
  .have Y:=xa2 Y b f @givenF.eq_1;exact wv (h:=e _ _ wy)
theorem Lf (t:Types)(a b:Int):givenF t [a,b]=given2F t a b:=by
 unfold givenF given2F;cases d:insideF t a<;>cases c:insideF t b<;>simp [d,c]
def Ib (nodes:List NodeTy):Nat->Nat->Xa0
 | 0,_=>[]
 | f+1,a=>match nodes[a]? with
  | none=>[]
  | some n=>(if 0<=n.G then Ib nodes f n.G.toNat else [])++[(a:Int)]
def Types.ao (t:Types)(a:Nat):Xa0:=Ib t.h (a+1) a
theorem QY (b:List NodeTy):∀ a f g,parentsOK b a->a<f->a<g->Ib b f a=Ib b g a:=by
 intro a;induction a using Nat.strongRecOn with
 | _ a ih =>
  intro f g d l k;obtain ⟨f,rfl⟩:∃ f',f=f'+1:=⟨f - 1,bZ⟩;obtain ⟨g,rfl⟩:∃ g',g=g'+1:=⟨g - 1,bZ⟩;unfold Ib;split
  .rfl
  .rename_i n hn;have:=d a n (bD _) hn;congr 1;split
   .exact ih n.G.toNat bZ f g (λj m i e=>d j m bZ e) bZ bZ
   .rfl
theorem AJ (t:Types)(a:Nat)(b:a<t.h.length)(c:parentsOK t.h a) :
  t.ao a=(if 0<=t.h[a].G then t.ao t.h[a].G.toNat else [])++[(a:Int)]:=by
 have e:=c a _ (bD _) (aA b);by_cases d:0<=t.h[a].G
 .have hlt:t.h[a].G.toNat<a:=bZ;have:=QY t.h t.h[a].G.toNat a (t.h[a].G.toNat+1) (λj m h f=>c j m bZ f) hlt bZ;simp [Types.ao,Ib,aA b,d,this]
 .simp [Types.ao,Ib,aA b,d]
def La (t:Types)(k:Nat):Xa0:=if k=0 then [] else t.ao (k - 1)
theorem QB {xs a:Xa0}{i:Nat}(b:a.length=xs.length)(d:xs.length<=2 * i+1)(c:∀ j,j<xs.length->a[j]?=if j<i\/xs.length - i<=j then xs[xs.length - 1 - j]? else xs[j]?):a=xs.reverse:=by
 apply f9;grind
theorem NY (G:AHeap)(d:Nat)(xs:Xa0)(w:G.get d=some ⟨3,1,xs.map cI,false⟩)(L:xs.length<=100000)(Q:D->AHeap->Prop)
  (I:∀ H',H'.get d=some ⟨3,1,xs.reverse.map cI,false⟩->(∀ j,j≠d->H'.get j=G.get j)->G.next<=H'.next->Q (.tup []) H'):ACalls prog 372 [.own d xs.length] G Q:=by
 refine (Tz.c0 func372 rfl ?_);try simp [go_sem,seval,w]
 repeat first|intro _|refine ⟨iF,?_⟩
 obtain ⟨x,g⟩:∃ x:Nat->d7->AHeap->Prop,∀ (i:Nat) (e:d7) (H:AHeap),x i e H↔(∃ b:Xa0,(e 0=.own d xs.length)/\(e 2=dI i)/\(e 3=dI ((xs.length:Int) - 1 - i))/\(H.get d=some ⟨3,1,b.map cI,false⟩)/\(∀ j,j≠d->H.get j=G.get j)/\(G.next<=H.next)/\(b.length=xs.length)/\(∀ j,j<xs.length->b[j]?=if j<i\/xs.length - i<=j then xs[xs.length - 1 - j]? else xs[j]?)):=⟨λi e H=>_,λ_ _ _=>Iff.rfl⟩;refine uJ x (λi=>xs.length - i) (0) ((g _ _ _).2 ⟨(xs),?_,?_,?_,(w),(λ_ _=>rfl),(bD _),(by first|assumption|omega|(simp [go_sem,w];done)|(simp_all;done)),(by intro j h;simp;omega)⟩) ?_;iterate 3 (first|omega|(simp [go_sem,seval]<;>omega))
 intro i e H v;obtain ⟨b,n,m,l,C,p,t,r,q⟩:=(g _ _ _).1 v;have y:=xa1 n m l;try simp [go_sem,seval,y]
 refine bA (λk=>?_) (λk=>?_)
 .try simp [go_sem] at k
  have h:xs.length - 1 - i<b.length:=bZ;have c:i<b.length:=bZ;have s:((xs.length:Int) - 1 - i).toNat=xs.length - 1 - i:=bZ;have f:∀ j,j<xs.length->((b.set i (b[xs.length - 1 - i]?.getD 0)).set (xs.length - 1 - i) (b[i]?.getD 0))[j]?=if j<i+1\/xs.length - (i+1)<=j then xs[xs.length - 1 - j]? else xs[j]?:=λj u=>by
   have k:=q j u;have F:=q i bZ;have E:=q (xs.length - 1 - i) bZ;rw [aA c] at F;rw [aA h] at E;rw [eB,eB,aA c,aA h];by_cases B:xs.length - 1 - i=j
   .rw [if_pos B,if_pos (by simp;omega),if_pos bZ];simp only [aD];rw [F,if_neg bZ];congr 1;omega
   .rw [if_neg B];by_cases A:i=j
    .rw [if_pos A,if_pos bZ,if_pos bZ];simp only [aD];rw [E,if_neg bZ];congr 1;omega
    .rw [if_neg A,k];by_cases z:j<i\/xs.length - i<=j
     .rw [if_pos z,if_pos bZ]
     .rw [if_neg z,if_neg bZ]
  try simp [go_sem,seval,y,C,k,s,aA h,aA c,r,(bZ:i≠xs.length - 1 - i)]
  repeat first|intro _|refine ⟨iF,?_⟩
  refine g9 (i+1) bZ ((g _ _ _).2 ⟨((b.set i (b[xs.length - 1 - i]?.getD 0)).set (xs.length - 1 - i) (b[i]?.getD 0)),?_,?_,?_,(by simp [go_sem,aA h,aA c]),(by intro j o;simp [go_sem,o,p j o]),(by simp [go_sem];omega),(by first|assumption|omega|(simp [go_sem,aA h,aA c,r];done)|(simp_all<;>omega)),(f)⟩)<;>first|omega|(simp [go_sem,seval,y]<;>omega)
 .try simp [go_sem] at k
  have:=QB r bZ q;subst this;try simp [go_sem,seval]
  exact I _ C p t
theorem Qe (t:Types)(F:t.ok)(l:t.av)(a:Nat)(J:a<t.h.length):Pua 328 [t.d,dI a] (.list ((t.ao a).map cI)):=by
 have w:=l.br;refine Tz.pK ⟨λt=>t==5,λ_=>[]⟩ func328 rfl (λQ A=>?_);have Y:=trivial;refine wv (h:=bC (λk e H=>∃ b:Xa0,(e 2=.adr t.c/\e 1=dI ((k:Int) - 1)/\e 5=.own 0 b.length)/\(H.get 0=some ⟨3,1,b.map cI,false⟩)/\(0<H.next)/\(k<=t.h.length)/\(b.length+k<=12)/\(La t k++b.reverse=t.ao a)) (λk=>k) (a+1) ⟨([]),wg,wn,wn,wi,(by simp;omega),(by simp [La])⟩ λK s k e H r=>?_);obtain ⟨b,C,g,i,G,I,j⟩:=r;have Y:=xa2 Y C g (bP i);refine c8 (λx=>?_) λx=>?_
 .have hk0:0<k:=bZ;have f:k - 1<t.h.length:=bZ;have u:=l.G (k - 1) _ (aA f);have v:=l.ax (k - 1) _ (aA f);have o:((k:Int) - 1).toNat=k - 1:=bZ;have z:=AJ t (k - 1) f (l.ap _);have q:La t k=La t (t.h[k - 1].G+1).toNat++[(k:Int) - 1]:=by
   unfold La;grind
  have Y:=xa2 Y x o f;exact wo (h:=wx s ((t.h[k - 1].G+1).toNat) ⟨(b++[(k:Int) - 1]),wg,wn,wn,wj,(by simp;omega),(by rw [q] at j;rw [<- j];simp)⟩)
 .have hk0:k=0:=bZ;subst hk0;have p:(t.ao a).length=b.length:=by rw [<- j];simp [La]
  have n:(b.map cI).reverse=(t.ao a).map cI:=by rw [<- List.map_reverse,<- j];rfl
  refine wv (h:=?_);unfold e8;refine NY _ _ b g bZ _ λL B _ _=>?_;exact wv (h:=A _ _ (by simp [go_sem,B,n,p]))
theorem GZ (t:Types)(f:t.ok)(e:t.av)(a b:Int)(i:0<=a)(j:a<t.h.length):Pua 266 [t.d,dI a,dI b] (.bool (mem (t.ao a.toNat) b)):=by
 have c:=Qe t f e a.toNat bZ;rw [Int.toNat_of_nonneg i] at c;refine Tz.p0 func266 rfl λQ g Y=>?_;refine wv (h:=aB (c) wl ?_);refine wv (h:=aB (eX _ _) wl ?_);exact wv (h:=g _ _ wy)
def oR (t:Types)(edge a b:Int):Bool:=decide (given2F t a b=0)&&(decide (0<=edge)&&decide (edge<t.i.length)) &&
 (mem (t.ao a.toNat) (match t.i[edge.toNat]? with|some x=>x.B|none=>0)&&mem (t.ao b.toNat) (match t.i[edge.toNat]? with|some x=>x.O|none=>0))
theorem sK {t:Types}{a b:Int}(h:given2F t a b=0):t.av/\(0<=a/\a<t.h.length)/\(0<=b/\b<t.h.length):=by
 unfold given2F at h;split at h
 .rename_i h1;exact absurd h h1
 .rename_i h1;split at h
  .rename_i h2;simp [insideF] at h2;exact ⟨oZ (eL h1),h2.1,h2.2⟩
  .cases h
theorem G0 (t:Types)(f:t.ok)(c a b:Int):Pua 232 [t.d,dI c,dI a,dI b] (.bool (oR t c a b)):=by
 refine Tz.p0 func232 rfl λQ j Y=>?_;refine wo (h:=aB (Af t f [a,b]) wl ?_);refine dW (λe=>?_) λe=>?_
 .rw [Lf] at e;exact wv (h:=j _ _ (by simp [go_sem,oR];intros;omega))
 .rw [Lf] at e;obtain ⟨i,l,k⟩:=sK e.1.1;have g:c.toNat<t.i.length:=bZ;have Y:=wa Y (aA g);refine wo (h:=aI (GZ t f i _ _ l.1 l.2) wl ?_);refine wo (h:=fX (λm=>GZ t f i _ _ k.1 k.2) (λm=>wl) ?_);exact wo (h:=j _ _ (by simp [go_sem,oR,e]))
theorem xK (l:Xa0)(x b:Int):mem (l++[x]) b=(mem l b||decide (b=x)):=by
 rw [aU,c5,mem_iff,mem_iff];simp
theorem Ds (b:Int):mem ([]:Xa0) b=false:=by rw [aW];intro h;rw [mem_iff] at h;cases h
theorem Xf (t:Types)(a b:Int)(g:a<0)(f:0<=b):Pua 270 [t.d,dI a,dI b] (.bool false):=by
 refine Tz.p0 func270 rfl λQ e _=>?_;have Y:=wa (bZ:¬ 0<=a) (bZ:¬ a=b);refine wo (h:=?_);refine fX (r:=.bool false) (λc=>by simp at c) (λc=>by simp at c) ?_;exact wo (h:=e _ _ wy)
theorem tE (t:Types)(g:t.av)(b:Int)(m:0<=b):∀ a:Nat,a<t.h.length->Pua 270 [t.d,dI a,dI b] (.bool (mem (t.ao a) b)):=by
 intro a;induction a using Nat.strongRecOn with
 | _ a ih =>
 intro c;have i:=g.G a _ (aA c);have e:=AJ t a c (g.ap a);have l:Pua 270 [t.d,dI t.h[a].G,dI b] (.bool (mem (if 0<=t.h[a].G then t.ao t.h[a].G.toNat else []) b)):=by
  by_cases j:0<=t.h[a].G
  .rw [if_pos j];grind
  .rw [if_neg j,Ds];exact Xf t _ _ bZ m
 rw [e,xK];refine Tz.p0 func270 rfl λQ n _=>?_;have f:decide ((a:Int)=b)=decide (b=(a:Int)):=by rw [aU];simp;omega
 have Y:=wa (aA c) c;refine wo (h:=fX (λk=>l) (λk=>wl) ?_);exact wo (h:=n _ _ (.inl (by simp only [go_sem,f,Bool.or_comm])))
theorem HJ (t:Types)(m:t.ok)(c a b:Int):Pua 221 [t.d,dI c,dI a,dI b] (.bool (oR t c a b)):=by
 have o:=m.dv;refine Tz.p0 func221 rfl λQ n Y=>?_;refine wo (h:=aB (Az t m a b) wl ?_);refine wo (h:=aG (λl=>o6 _ _ _) (λl=>wl) ?_);refine wo (h:=bA (λj=>?_) (λj=>?_))
 .skip
  simp [inF] at j;exact wv (h:=n _ _ (by simp [go_sem,oR];intros;omega))
 .skip
  simp [inF] at j;obtain ⟨k,q,p⟩:=sK j.1;have f:c.toNat<t.i.length:=bZ;have e:=k.dw _ (aC f);simp [insideF] at e;have i:=tE t k t.i[c.toNat].B e.1.1 a.toNat bZ;have g:=tE t k t.i[c.toNat].O e.2.1 b.toNat bZ;rw [Int.toNat_of_nonneg q.1] at i;rw [Int.toNat_of_nonneg p.1] at g;have Y:=wa Y (aA f);refine wo (h:=aI (i) wl ?_);refine wo (h:=fX (λl=>g) (λl=>wl) ?_);exact wo (h:=n _ _ (by simp [go_sem,oR,j,aA f];omega))
end Go.Abs
end

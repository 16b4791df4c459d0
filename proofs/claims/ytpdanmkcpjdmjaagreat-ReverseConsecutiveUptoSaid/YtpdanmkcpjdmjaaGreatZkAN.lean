/- A map of the call's own (keys of two integers, integer eleme -/
import Derived.Test.YtpdanmkcpjdmjaaGreatZkAF
import Derived.Test.YtpdanmkcpjdmjaaGreatZkAM
import Derived.Maps.RangeWalk
import Derived.DeepKeys4
set_option linter.unusedVariables false
set_option linter.unusedSimpArgs false
section
set_option maxHeartbeats 1000000
namespace Go.Abs
open Go.Maps (Keyed)
def D4 (u:Int):Prop:=-9223372036854775808<=u/\u<=9223372036854775807
theorem M3 {u:Int}(h:D4 u):(Lit.int .i64 u).wf=true:=by
 obtain ⟨b,a⟩:=h;simp [Lit.wf,IntKind.min,IntKind.max,IntKind.bits,IntKind.signed];omega
theorem UX {u:Int}(h:(Lit.int .i64 u).wf=true):D4 u:=by
 simp [Lit.wf,IntKind.min,IntKind.max,IntKind.bits,IntKind.signed] at h;exact ⟨aD,aD⟩
def kv (u v:Int):Value:=.agg #[.int .i64 u,.int .i64 v]
def kl (u v:Int):Lit:=.string (keyBytes [.int .i64 u,.int .i64 v])
structure MapT (P:Program) (T K E:TypeId):Prop where
 t:P.underlying T=some (.map K E)
 e:P.underlying E=some (.int .i64)
 cv:Keyed P K
 cw:∀ u v,D4 u->D4 v->keyOf P K (kv u v)=some (kl u v)
 dH:∀ key l,keyOf P K key=some l->∃ u v,D4 u/\D4 v/\key=kv u v
 z:∀ w,(zeroValue E).run P w=.ok (.int .i64 0) w
theorem Do {P:Program}{K E:TypeId}{e c:Field}(h:P.underlying K=some (.struct #[e,c]))(k:e.type=E/\e.offset=0/\(e.name != "_")=true)(j:c.type=E/\c.offset=1/\(c.name != "_")=true)
  (i:P.cellsOf K=2) (f:P.cellsOf E=1) (d:Nat) (a b:Value):P.keyLits (d+1) K [a,b]=(P.keyLits d E [a]).bind λx=>(P.keyLits d E [b]).map λy=>x++y:=by
 obtain ⟨q,p,o⟩:=k;obtain ⟨n,m,l⟩:=j;rw [Program.keyLits.eq_def];simp only [h];rw [if_pos (by simp [i,o,l])];simp only [List.mapM_cons,List.mapM_nil,q,p,n,m,f,List.drop_zero,uP,List.take_zero,List.drop_succ_cons,bind,pure];cases P.keyLits d E [a]<;>simp
 cases P.keyLits d E [b]<;>simp
theorem vI {P:Program}{E:TypeId}(he:P.underlying E=some (.int .i64))(d:Nat)(v:Value)(l:List Lit):P.keyLits (d+1) E [v]=some l↔∃ u,v=.int .i64 u/\(Lit.int .i64 u).wf=true/\l=[.int .i64 u]:=by
 rw [Program.keyLits.eq_def];grind
theorem Xd {P:Program}{T K E:TypeId}{n m:Field}(G:P.underlying T=some (.map K E))(g:P.underlying E=some (.int .i64))(c:P.underlying K=some (.struct #[n,m]))(D:n.type=E/\n.offset=0/\(n.name != "_")=true)(C:m.type=E/\m.offset=1/\(m.name != "_")=true)
  (k:P.cellsOf K=2) (i:P.cellsOf E=1) (s:P.keyType K=true) (H:∃ d,P.types.size+1=d+1+1) (e:Keyed P K) (F:∀ w,(zeroValue E).run P w=.ok (.int .i64 0) w):MapT P T K E:=by
 obtain ⟨d,A⟩:=H;refine ⟨G,g,e,λu v r q=>?_,λp l h=>?_,F⟩
 .unfold keyOf;simp only [c];rw [if_pos (by simp [s,Value.formed,c,kv,k]),A];have J:=(vI g d (.int .i64 u) _).2 ⟨u,rfl,M3 r,rfl⟩;have I:=(vI g d (.int .i64 v) _).2 ⟨v,rfl,M3 q,rfl⟩;show ((P.keyLits (d+1+1) K [.int .i64 u,.int .i64 v]).map λo=>Lit.string (keyBytes o))=_;rw [Do c D C k i,J,I];rfl
 .unfold keyOf at h;simp only [c] at h;split at h
  .rename_i hf;rw [aN] at hf;have f:=hf.2;cases p<;>simp [Value.formed,c,k] at f
   rename_i z;obtain ⟨z⟩:=z;match z,f with
   | [a,b],_ =>
    rw [A] at h;have j:((P.keyLits (d+1+1) K [a,b]).map λo=>Lit.string (keyBytes o))=some l:=h;rw [Do c D C k i] at j;cases t:P.keyLits (d+1) E [a] with
    | none=>rw [t] at j;cases j
    | some x =>
     cases B:P.keyLits (d+1) E [b] with
     | none=>rw [t,B] at j;cases j
     | some y =>
      obtain ⟨u,rfl,r,_⟩:=(vI g d a x).1 t;obtain ⟨v,rfl,q,_⟩:=(vI g d b y).1 B;exact ⟨u,v,UX r,UX q,rfl⟩
  .cases h
section
variable {P:Program} {T K E:TypeId}
theorem MapT.inj (h:MapT P T K E){u v d c:Int}(a:D4 u)(b:D4 v)(g:D4 d)(f:D4 c)(e:kl u v=kl d c):u=d/\v=c:=by
 have:=h.cv.inj (h.cw u v a b) (e ▸ h.cw d c g f);simpa [kv] using this
abbrev FM:=Int->Int->Option Int
def Mi (F:FM)(u v c:Int):FM:=λu' v'=>if u'=u/\v'=v then some c else F u' v'
def X9 (D:DataW Unit)(F:FM):Prop:=∀ u v,D4 u->D4 v->Maps.has D (kl u v)=(F u v).isSome/\∀ c,F u v=some c->∀ z,D.atKey (kl u v) z=.lit (.int .i64 c)
inductive MS where
 | no
 | mp (b n:Nat) (F:FM)
 | rg (b r:Nat) (F:FM) (left:Int->Int->Bool) (wH:Nat) (cur:Option (Int × Int × Int))
def RD (σ:Nat->Option Ow)(b:Nat):Prop:=∀ i o,σ i=some o->o.block≠some b
def FK (r:Nat):Value:=.pointer (some ⟨r,0,none⟩)
def MpOk (P:Program)(K E:TypeId)(σ:Nat->Option Ow)(base:Nat)(w:World):MS->Prop
 | .no=>True
 | .mp b n F=>base<=b/\RD σ b/\∃ D:DataW Unit,w.ownsMap P K (plainElem P E) b n D/\X9 D F
 | .rg b r F left wH cur=>base<=b/\base<=r/\RD σ b/\RD σ r/\∃ (n:Nat) (D:DataW Unit) (lf:Lit->Bool),w.ranges P K (plainElem P E) b r n D lf wH/\X9 D F/\(∀ u v,D4 u->D4 v->lf (kl u v)=left u v) /\
   ∀ u v c,cur=some (u,v,c)->(Instr.entry (FK r)).run P w=.ok (.tuple #[kv u v,.int .i64 c]) w
theorem IQ {σ σ':Nat->Option Ow}{w w':World}(hs:Stp σ w σ' w'){b:Nat}(hb:b<w.heap.size)(h:RD σ b):RD σ' b:=λi o' ho hb'=>by
 rcases hs.new i o' b ho hb' with h1|⟨j,o,h1,h2⟩
 .omega
 .exact h j o h1 h2
theorem RG {w w':World}{r b s c a:Nat}{d:Array Nat}{es:Array MapEntry}{v:Value}(j:w.heap[r]?=some (.mapIter (some b) s d c))(m:w.heap[b]?=some (.map es a))
  (f:w'.heap[r]?=some (.mapIter (some b) s d c)) (g:w'.heap[b]?=some (.map es a)) (h:(Instr.entry (FK r)).run P w=.ok v w):(Instr.entry (FK r)).run P w'=.ok v w':=by
 simp only [FK,Instr.entry,getObj,Sem.run_bind,Sem.run,j,f,Result.andThen] at h ⊢;cases i:d.back? with
 | none=>simp [i,stuck] at h
 | some st =>
  simp only [i,Sem.run_bind,Sem.run,m,g,Result.andThen] at h ⊢;by_cases l:a=c
  .subst l;cases k:es.find? (λx=>x.born==st) with
   | none=>simp [k,unsupported] at h
   | some x =>
    simp_all
  simp_all
theorem MpOk.bT {σ σ':Nat->Option Ow}{w w':World}{base:Nat}{g:MS}(h:MpOk P K E σ base w g)(f:Stp σ w σ' w'):MpOk P K E σ' base w' g:=by
 cases g with
 | no=>trivial
 | mp b n F =>
  obtain ⟨x,q,D,o,p⟩:=h;have j:=o.lt;have G:=f.aX b j q;refine ⟨x,IQ f j q,D,?_,p⟩;obtain ⟨y,a,m,d⟩:=o;exact ⟨y,a,G.trans m,d⟩
 | rg b r F left wH cur =>
  obtain ⟨x,q,o,p,n,D,B,t,M,L,J⟩:=h;have l:=t.owns.lt;have k:=t.lt;have A:=f.aX b l o;have z:=f.aX r k p;obtain ⟨y,a,e,i,N,m,O,C,I,s,d⟩:=t;exact ⟨x,q,IQ f l o,IQ f k p,n,D,B,⟨y,a,e,i,N,A.trans m,O,C,I,z.trans s,d⟩,M,L,λu v c H=>RG s m (z.trans s) (A.trans m) (J u v c H)⟩
theorem MpOk.dB {σ:Nat->Option Ow}{w:World}{base a:Nat}{g:MS}(h:MpOk P K E σ base w g)(c:a<=base):MpOk P K E σ a w g:=by
 cases g with
 | no=>trivial
 | mp b n F=>exact ⟨dH c h.1,h.2⟩
 | rg b r F left wH cur=>exact ⟨dH c h.1,dH c h.2.1,h.2.2⟩
theorem Wk {w:World}{b:Nat}{es:Array MapEntry}{clock:Nat}(hb:w.heap[b]?=some (.map es clock)):∀ ad:Addr,ad.block=b->w.cell? ad=none:=λad e=>by simp [World.cell?,e,hb]
theorem Uu {w:World}{r:Nat}{m:Option Nat}{s c:Nat}{seen:Array Nat}(hr:w.heap[r]?=some (.mapIter m s seen c)):∀ ad:Addr,ad.block=r->w.cell? ad=none:=λad e=>by simp [World.cell?,e,hr]
theorem Rel.az {d:Nat->Prop}{H:AHeap}{σ:Nat->Option Ow}{w w':World}{row:Option Nat}(h:Rel d H σ w)(j:w.grownBy w' row)(q:∀ b,row=some b->RD σ b/\∀ ad:Addr,ad.block=b->w.cell? ad=none) :
  Rel d H σ w'/\Keeps (dJ d H σ) σ H.F w (dJ d H σ) σ H.F w':=by
 have r:Keeps (dJ d H σ) σ H.F w (dJ d H σ) σ H.F w':=⟨λad u v g=>⟨v,by
  have n:some ad.block≠row:=λe=>by rw [(q _ e.symm).2 ad rfl] at g;cases g
  exact (World.cell?_of_block (j.block ad.block (World.block_lt_of_cell? w ad g) n)).trans g⟩,λm t _ h=>⟨t,h,.inl rfl⟩,λ_ h=>h⟩
 refine ⟨⟨h.bp,h.bf,λm k p=>?_,h.inj,λi o c f a=>⟨cO (h.lt i o c f a).1 j.size,(h.lt i o c f a).2⟩,λc a=>cO (h.m0 c a) j.size⟩,r⟩;obtain ⟨o,f,l⟩:=h.ah m k p;obtain ⟨s,A,z,y⟩:=l.row;refine ⟨o,f,l.af,l.ty,l.Y,l.H,s,A.kept j ?_,z,y.q r⟩;cases x:o.val.ownBlock with
 | none=>exact .inl rfl
 | some c=>exact .inr λe=>(q c e.symm).1 m o f x
theorem Stp.az {σ0 σ:Nat->Option Ow}{w0 w w':World}{row:Option Nat}(h:Stp σ0 w0 σ w)(hg:w.grownBy w' row)(hr:∀ b,row=some b->w0.heap.size<=b):Stp σ0 w0 σ w' :=
 ⟨hg.os.trans h.os,hg.tape.trans h.tape,hg.output.trans h.output,dH h.size hg.size,λb hb hn=>(hg.block b (cO hb h.size) (λe=>by have:=hr b e.symm;omega)).trans (h.aX b hb hn),h.new⟩
structure SG (P:Program) (K E:TypeId) (n:Nat) (M0:Nat->Prop) (H0:AHeap) (σ0:Nat->Option Ow) (w0:World) (g:MS) (e:eF) (H:AHeap) (σ:Nat->Option Ow) (a:Act) (w:World):Prop where
 st:St n M0 H σ w e a
 bT:Stp σ0 w0 σ w
 q:Keeps (dJ M0 H0 σ0) σ0 H0.F w0 (dJ M0 H σ) σ H.F w
 map:MpOk P K E σ w0.heap.size w g
section
variable {n:Nat} {M0:Nat→Prop} {H0 H:AHeap} {σ0 σ:Nat→Option Ow} {w0 w w':World} {g g':MS} {e:eF} {a:Act}
theorem SG.az {row:Option Nat}(h:SG P K E n M0 H0 σ0 w0 g e H σ a w)(j:w.grownBy w' row)(i:∀ b,row=some b->w0.heap.size<=b/\RD σ b/\∀ ad:Addr,ad.block=b->w.cell? ad=none)
  (o:MpOk P K E σ w0.heap.size w' g') {c:Option Tmp} (m:sF n c=true) {v:Value} {d:D} (l:RepV (dJ M0 H σ) σ H.F w' v d):SG P K E n M0 H0 σ0 w0 g' (pG e c d) H σ (a.put c v) w':=by
 obtain ⟨p,k⟩:=h.st.a2.az j λb f=>(i b f).2;exact ⟨h.st.put p k m l,h.bT.az j λb f=>(i b f).1,h.q.trans k,o⟩
def Qo (P:Program)(K E:TypeId)(n:Nat)(M0:Nat->Prop)(H0:AHeap)(σ0:Nat->Option Ow)(w0:World)(X:MS->eF->AHeap->Prop)(a:Act)(w:World):Prop:=∃ g e H σ,X g e H/\SG P K E n M0 H0 σ0 w0 g e H σ a w
end
abbrev PG:=Exit->MS->eF->AHeap->Prop
def WpG (P:Program)(K E:TypeId)(n:Nat)(x:Code)(Q:PG)(g:MS)(e:eF)(H:AHeap):Prop :=
 ∀ M0 H0 σ0 w0 σ a w,SG P K E n M0 H0 σ0 w0 g e H σ a w->x.wp P (λex a w=>Qo P K E n M0 H0 σ0 w0 (Q ex) a w) a w
def KK (R:MS->eF->AHeap->Prop)(Q:PG):PG
 | .normal,g,e,H=>R g e H
 | ex,g,e,H=>Q ex g e H
def No (id:Nat)(Q:PG):PG
 | .exit id',g,e,H=>if id'=id then Q .normal g e H else Q (.exit id') g e H
 | ex,g,e,H=>Q ex g e H
variable {n:Nat} {c:Cfg} {Q:PG} {g:MS} {e:eF} {H:AHeap}
theorem gP {x:Code}(hm:P.follows .mixedOrders=true)(hok:qB c n x=true)(h:pD P c x (λex e H=>Q ex g e H) e H):WpG P K E n x Q g e H :=
 λM0 H0 σ0 w0 σ a w hS=>iS (o9 hm x _ e H h hok σ w a hS.st) λex a' w' ⟨e',H',σ',hq,hS',hst',hk'⟩=>⟨g,e',H',σ',hq,hS',hS.bT.trans hst',hS.q.trans hk',hS.map.bT hst'⟩
theorem WpG.seq {x y:Code}(h:WpG P K E n x (KK (WpG P K E n y Q) Q) g e H):WpG P K E n (.seq x y) Q g e H:=λM0 H0 σ0 w0 σ a w hS=>by
 refine wp_seq (iS (h M0 H0 σ0 w0 σ a w hS) λex a' w' hc=>?_);cases ex<;>first|exact hc|skip
 obtain ⟨g',e',H',σ',hq,hS'⟩:=hc;exact hq M0 H0 σ0 w0 σ' a' w' hS'
theorem dR {x y:Code}(h:∀ R:MS->eF->AHeap->Prop,(∀ g e H,WpG P K E n y Q g e H->R g e H)->WpG P K E n x (KK R Q) g e H):WpG P K E n (.seq x y) Q g e H:=.seq (h _ λ_ _ _ h=>h)
@[go_sem] theorem WR {R:MS->eF->AHeap->Prop}{g:MS}{e:eF}{H:AHeap}:KK R Q .normal g e H=R g e H:=rfl
@[go_sem] theorem Zs {R:MS->eF->AHeap->Prop}{g:MS}{e:eF}{H:AHeap}:KK R Q .ret g e H=Q .ret g e H:=rfl
@[go_sem] theorem Yi {R:MS->eF->AHeap->Prop}{g:MS}{e:eF}{H:AHeap}{i:Nat}:KK R Q (.exit i) g e H=Q (.exit i) g e H:=rfl
@[go_sem] theorem Zk {i:Nat}{g:MS}{e:eF}{H:AHeap}:No i Q .ret g e H=Q .ret g e H:=rfl
@[go_sem] theorem WJ {i:Nat}{g:MS}{e:eF}{H:AHeap}:No i Q .normal g e H=Q .normal g e H:=rfl
@[go_sem] theorem X6 {i j:Nat}{g:MS}{e:eF}{H:AHeap}:No i Q (.exit j) g e H=if j=i then Q .normal g e H else Q (.exit j) g e H:=rfl
theorem WpG.cond {x:Operand}{y z:Code}{t:Bool}(hx:fC e x=.bool t)(h1:t=true->WpG P K E n y Q g e H)(h2:t=false->WpG P K E n z Q g e H):WpG P K E n (.cond x y z) Q g e H:=λM0 H0 σ0 w0 σ a w hS=>by
 have hv:=hS.st.bc.ev x;rw [hx] at hv;have hc:a.eval x=.bool t:=by generalize a.eval x=v at hv;cases hv;rfl
 exact wp_cond_split hc (λht=>h1 ht M0 H0 σ0 w0 σ a w hS) λht=>h2 ht M0 H0 σ0 w0 σ a w hS
theorem WpG.block {id:Nat}{b:Code}(h:WpG P K E n b (No id Q) g e H):WpG P K E n (.block id b) Q g e H:=λM0 H0 σ0 w0 σ a w hS=>by
 refine wp_block (iS (h M0 H0 σ0 w0 σ a w hS) λex a' w' hc=>?_);cases ex<;>first|exact hc|skip
 rename_i id';obtain ⟨g',e',H',σ',hq,hS'⟩:=hc;by_cases hid:id'=id
 .subst hid;show (if id'=id' then Qo P K E n M0 H0 σ0 w0 (Q .normal) a' w' else _);rw [if_pos rfl];refine ⟨g',e',H',σ',?_,hS'⟩;have h':(if id'=id' then Q .normal g' e' H' else Q (.exit id') g' e' H'):=hq;rw [if_pos rfl] at h';exact h'
 .show (if id'=id then Qo P K E n M0 H0 σ0 w0 (Q .normal) a' w' else Qo P K E n M0 H0 σ0 w0 (Q (.exit id')) a' w');rw [if_neg hid];refine ⟨g',e',H',σ',?_,hS'⟩;have h':(if id'=id then Q .normal g' e' H' else Q (.exit id') g' e' H'):=hq;rw [if_neg hid] at h';exact h'
theorem WpG.loop {b:Code}{ι:Type}(I:ι->MS->eF->AHeap->Prop)(m:ι->Nat)(x0:ι)(h0:I x0 g e H)(hI:∀ x g e H,I x g e H->WpG P K E n b (KK (λg' e' H'=>∃ x',m x'<m x/\I x' g' e' H') Q) g e H):WpG P K E n (.loop b) Q g e H :=
 λM0 H0 σ0 w0 σ a w hS=>by
 let J:Nat->Act->World->Prop:=λk a' w'=>∃ g e H σ x,m x=k/\I x g e H/\SG P K E n M0 H0 σ0 w0 g e H σ a' w'
 have hJ0:J (m x0) a w:=⟨g,e,H,σ,x0,rfl,h0,hS⟩
 classical
 let μ:Act->World->Nat:=λa' w'=>if hx:∃ k,J k a' w' then Classical.choose (gC hx) else 0
 refine wp_loop (λa' w'=>∃ k,J k a' w') μ ⟨_,hJ0⟩ λa' w' hx=>?_;have hμ:μ a' w'=Classical.choose (gC hx):=by simp only [μ,dif_pos hx]
 obtain ⟨g1,e1,H1,σ1,x1,hx1,hi,hS1⟩:=(zV (gC hx)).1;refine iS (hI x1 g1 e1 H1 hi M0 H0 σ0 w0 σ1 a' w' hS1) λex a'' w'' hc=>?_;cases ex<;>first|exact hc|skip
 obtain ⟨g2,e2,H2,σ2,⟨x2,hlt,hi2⟩,hS2⟩:=hc;have hx2:∃ k,J k a'' w'':=⟨m x2,g2,e2,H2,σ2,x2,rfl,hi2,hS2⟩;refine ⟨hx2,?_⟩;have:μ a'' w''=Classical.choose (gC hx2):=by simp only [μ,dif_pos hx2]
 rw [this,hμ];refine Nat.lt_of_le_of_lt ?_ (hx1 ▸ hlt);rcases cH (m x2) (Classical.choose (gC hx2)) with hlt'|hge
 .exact absurd ⟨g2,e2,H2,σ2,x2,rfl,hi2,hS2⟩ ((zV (gC hx2)).2 _ hlt')
 .exact hge
theorem WpG.ret (h:Q .ret g e H):WpG P K E n .ret Q g e H:=λM0 H0 σ0 w0 σ a w hS=>wp_ret ⟨g,e,H,σ,h,hS⟩
theorem WpG.skip (h:Q .normal g e H):WpG P K E n .skip Q g e H:=λM0 H0 σ0 w0 σ a w hS=>wp_skip ⟨g,e,H,σ,h,hS⟩
theorem WpG.exit {id:Nat}(h:Q (.exit id) g e H):WpG P K E n (.exit id) Q g e H:=λM0 H0 σ0 w0 σ a w hS=>wp_exit ⟨g,e,H,σ,h,hS⟩
/-! ### operations -/
def OpsG (P:Program)(K E:TypeId)(n:Nat)(ops:Array Oper)(l:List Oper)(X:MS->eF->AHeap->Prop)(g:MS)(e:eF)(H:AHeap):Prop :=
 ∀ M0 H0 σ0 w0 σ a w (Q:Exit->Act->World->Prop),SG P K E n M0 H0 σ0 w0 g e H σ a w->(∀ a' w',Qo P K E n M0 H0 σ0 w0 X a' w'->Q .normal a' w')->wpList P ops Q l a w
theorem WpG.region {id:Nat}{ops:Array Oper}(h:OpsG P K E n ops ops.toList (Q .normal) g e H):WpG P K E n (.region id ops false) Q g e H:=λM0 H0 σ0 w0 σ a w hS=>wp_region_list (h M0 H0 σ0 w0 σ a w _ hS λ_ _ hc=>hc)
variable {ops:Array Oper} {l:List Oper} {o:Oper} {X:MS→eF→AHeap→Prop}
theorem OpsG.nil (h:X g e H):OpsG P K E n ops [] X g e H:=λM0 H0 σ0 w0 σ a w Q hS hQ=>wpList_nil (hQ a w ⟨g,e,H,σ,h,hS⟩)
theorem OpsG.c8 {md:Nat->Bool}:∀ (l1:List Oper) {l2:List Oper} {e:eF} {H:AHeap},(∀ o∈l1,sF n o.dst=true)->nX P md ops l1 e H (λe' H'=>OpsG P K E n ops l2 X g e' H')->OpsG P K E n ops (l1++l2) X g e H
 | [],l2,e,H,hd,h=>h
 | o :: l1,l2,e,H,hd,h=>λM0 H0 σ0 w0 σ a w Q hS hQ=>by
  unfold nX at h;have hs:=AQ (Q:=Q) h hS.st (λhn=>mS _ (hS.st.a2.bf _ hn)) (hd o dB);have:=StepC.mono (K':=wpList P ops Q (l1++l2)) (λa' w' ⟨v,H',F,σ',hk,hS',hst,hkp⟩ =>
   OpsG.c8 l1 (λo' ho'=>hd o' (by simp [ho'])) hk M0 H0 σ0 w0 σ' a' w' Q ⟨hS',hS.bT.trans hst,hS.q.trans hkp,hS.map.bT hst⟩ hQ) hs
  unfold StepC at this;show wpList P ops Q (o :: (l1++l2)) a w;unfold wpList;exact this
theorem OpsG.take {md:Nat->Bool}(k:Nat)(b:((l.take k).all λo=>sF n o.dst)=true)(h:∀ R:eF->AHeap->Prop,(∀ e' H',OpsG P K E n ops (l.drop k) X g e' H'->R e' H')->nX P md ops (l.take k) e H R):OpsG P K E n ops l X g e H:=by
 have:=OpsG.c8 (g:=g) (X:=X) (P:=P) (K:=K) (E:=E) (n:=n) (ops:=ops) (md:=md) (l.take k) (l2:=l.drop k) (λo a=>(c9.1 b) o a) (h _ λ_ _ h=>h);simp_all
theorem OpsG.all {md:Nat->Bool}(b:(l.all λo=>sF n o.dst)=true)(h:∀ R:eF->AHeap->Prop,(∀ e' H',X g e' H'->R e' H')->nX P md ops l e H R):OpsG P K E n ops l X g e H:=by
 have:=OpsG.c8 (g:=g) (X:=X) (P:=P) (K:=K) (E:=E) (n:=n) (ops:=ops) (md:=md) l (l2:=[]) (λo a=>(c9.1 b) o a) (h _ λ_ _ h=>OpsG.nil h);grind
theorem IX {d:Nat->Prop}{σ:Nat->Option Ow}{w:World}{a:Act}(c:St n d H σ w e a){m:Operand}{v:Value}(b:fC e m=.cst v):a.eval m=v:=by
 have h:=c.bc.ev m;rw [b] at h;generalize a.eval m=x at h;cases h;rfl
theorem SP {k:Nat->Prop}{σ:Nat->Option Ow}{w:World}{a:Act}(g:St n k H σ w e a){x:Operand}{u v:Int}(d:fC e x=.agg [.int .i64 u,.int .i64 v]):a.eval x=kv u v:=by
 have h:=g.bc.ev x;rw [d] at h;generalize a.eval x=y at h;cases h
 rename_i c f l b;match c,f with
 | [p,q],_ =>
  have j:=b 0 p _ rfl rfl;have i:=b 1 q _ rfl rfl;cases j;cases i;rfl
theorem Y5 {d:Nat->Prop}{σ:Nat->Option Ow}{w:World}{a:Act}(c:St n d H σ w e a){x:Operand}{k:IntKind}{u:Int}(b:fC e x=.int k u):a.eval x=.int k u:=by
 have h:=c.bc.ev x;rw [b] at h;generalize a.eval x=y at h;cases h;rfl
theorem Ol {M:Nat->Prop}{σ:Nat->Option Ow}{N:Nat->Prop}{w:World}(u v:Int):RepV M σ N w (kv u v) (.agg [.int .i64 u,.int .i64 v]) :=
 .agg [.int .i64 u,.int .i64 v] _ rfl (by simp [Value.oneCell']) λj x d hx hd=>by
  match j with
  | 0=>simp at hx hd;subst hx;subst hd;exact .int _ _
  | 1=>simp at hx hd;subst hx;subst hd;exact .int _ _
  | j+2=>simp at hx
theorem GN {M:Nat->Prop}{σ:Nat->Option Ow}{N:Nat->Prop}{w:World}{vs:List Value}{ds:UN}(hl:vs.length=ds.length)(hr:∀ (j:Nat) (u:Value) (d:D),vs[j]?=some u->ds[j]?=some d->RepV M σ N w u d):RepV M σ N w (.tuple vs.toArray) (.tup ds):=.tup _ _ hl hr
theorem OpsG.make (hT:MapT P T K E){t:TypeId}(hop:o.op=.makeMap t none)(hg:o.guard=none)(hd:sF n o.dst=true)(h:∀ b,OpsG P K E n ops l X (.mp b 0 λ_ _=>none) (pG e o.dst (.cst (.map (some b)))) H):OpsG P K E n ops (o :: l) X .no e H :=
 λM0 H0 σ0 w0 σ a w Q hS hQ=>by
 refine wpList_plain hg λK' hK'=>?_;unfold Oper.wp;simp only [execOp,hop,RowKit.run_makeMap,Option.map_none,Sem.run_bind,Sem.run_pure,Result.andThen,Oper.upon_value];refine hK' _ _ (h w.heap.size M0 H0 σ0 w0 σ _ _ Q (hS.az (g':=.mp w.heap.size 0 λ_ _=>none) (World.grownBy_alloc w _ none) dB ⟨hS.bT.size,λi o ho hb=>?_,_,World.ownsMap_made w P K _,λu v _ _=>⟨rfl,by simp⟩⟩ hd (.cst _)) hQ);have:=(hS.st.a2.lt i o _ ho hb).1;omega
theorem UM (hT:MapT P T K E){t:TypeId}(ht:t=T){m x:Operand}(hop:o.op=.lookup t m x true)(hg:o.guard=none)(hd:sF n o.dst=true){b k:Nat}{F:FM}(hm:fC e m=.cst (.map (some b))){u v:Int}(hx:fC e x=.agg [.int .i64 u,.int .i64 v])(hu:D4 u)(hv:D4 v)
  (h:OpsG P K E n ops l X (.mp b k F) (pG e o.dst (.tup [.int .i64 ((F u v).getD 0),.bool (F u v).isSome])) H):OpsG P K E n ops (o :: l) X (.mp b k F) e H :=
 λM0 H0 σ0 w0 σ a w Q hS hQ=>by
 subst ht;obtain ⟨m1,m2,D,m3,m4⟩:=hS.map;obtain ⟨r1,r2⟩:=m4 u v hu hv;refine wpList_lookup_own_ok w hg m x t hop K E hT.cv hT.t _ (hT.z w) (.lit (.int .i64 0)) [] (plainElem_int hT.e (M3 ⟨aD,aD⟩)) b k D (IX hS.st hm) m3 (kv u v) (kl u v) (SP hS.st hx) (hT.cw u v hu hv) λy ps hy=>?_;obtain ⟨c,rfl,hc,_⟩:=plainElem_int_inv hT.e hy;have hcv:c=(F u v).getD 0:=by
  simp only [Prod.mk.injEq] at hc;cases hF:F u v with
  | none =>
   rw [hF] at r1;have:=Maps.atKey_of_not_has r1 (.lit (.int .i64 0));rw [this] at hc;have:=hc.1;simp at this;simp [this]
  | some c' =>
   have:=r2 c' hF (.lit (.int .i64 0));rw [this] at hc;have:=hc.1;simp at this;simp [this]
 subst hcv;rw [r1];refine h M0 H0 σ0 w0 σ _ _ Q (hS.az (row:=none) ⟨rfl,rfl,rfl,aZ _,λ_ _ _=>rfl⟩ dB hS.map hd (GN (vs:=[_,_]) rfl λj y d hy hd=>?_)) hQ;match j with
 | 0=>simp at hy hd;subst hy;subst hd;exact .int _ _
 | 1=>simp at hy hd;subst hy;subst hd;exact .bool _
 | j+2=>simp at hy
theorem OpsG.store (hT:MapT P T K E){t:TypeId}(ht:t=T){m x y:Operand}(hop:o.op=.mapUpdate t m x y)(hg:o.guard=none)(hd:sF n o.dst=true){b k:Nat}{F:FM}(hm:fC e m=.cst (.map (some b))){u v c:Int}(hx:fC e x=.agg [.int .i64 u,.int .i64 v])(hy:fC e y=.int .i64 c)(hu:D4 u)(hv:D4 v)(hc:D4 c)(hk:k<1000000)
  (h:OpsG P K E n ops l X (.mp b (k+1) (Mi F u v c)) (pG e o.dst .junk) H):OpsG P K E n ops (o :: l) X (.mp b k F) e H :=
 λM0 H0 σ0 w0 σ a w Q hS hQ=>by
 subst ht;obtain ⟨m1,m2,D,m3,m4⟩:=hS.map;have hcm:∀ ad:Addr,ad.block=b->w.cell? ad=none:=by obtain ⟨es,clock,hb,_⟩:=m3;exact Wk hb
 refine wpList_mapUpdate_own w hg m x y t hop K E hT.cv hT.t _ b k D (IX hS.st hm) m3 (by simp only [maxLen];omega) (kv u v) (.int .i64 c) (kl u v) (SP hS.st hx) (Y5 hS.st hy) (hT.cw u v hu hv) (.lit (.int .i64 c)) [] (plainElem_int hT.e (M3 hc)) λw' hw1 hw2=>?_;refine h M0 H0 σ0 w0 σ _ _ Q (hS.az (g':=.mp b (k+1) (Mi F u v c)) hw2 (λb' hb'=>by cases hb';exact ⟨m1,m2,hcm⟩) ⟨m1,m2,_,hw1,λu' v' hu' hv'=>?_⟩ hd (.junk _)) hQ;unfold Mi;by_cases he:u'=u/\v'=v
 .obtain ⟨rfl,rfl⟩:=he;rw [if_pos ⟨rfl,rfl⟩];have hkl:=hT.cv.key (hT.cw u' v' hu' hv');exact ⟨Maps.has_put_same m3.isMap hkl _,λc' hc' z=>by cases hc';exact Maps.atKey_put_same m3.isMap hkl _ _⟩
 .rw [if_neg he];have hne:kl u' v'≠kl u v:=λe'=>he (hT.inj hu' hv' hu hv e');obtain ⟨r1,r2⟩:=m4 u' v' hu' hv';exact ⟨(Maps.has_put_other hne _).trans r1,λc' hc' z=>(Maps.atKey_put_other hne _ _).trans (r2 c' hc' z)⟩
theorem OpsG.range (hT:MapT P T K E){t:TypeId}(ht:t=T){m:Operand}(hop:o.op=.range t m)(hg:o.guard=none)(hd:sF n o.dst=true){b k:Nat}{F:FM}(hm:fC e m=.cst (.map (some b)))
  (h:∀ r wH,OpsG P K E n ops l X (.rg b r F (λu v=>(F u v).isSome) wH none) (pG e o.dst (.cst (FK r))) H):OpsG P K E n ops (o :: l) X (.mp b k F) e H :=
 λM0 H0 σ0 w0 σ a w Q hS hQ=>by
 subst ht;obtain ⟨m1,m2,D,m3,m4⟩:=hS.map;refine wpList_range_own w hg m t hop K E hT.cv hT.t _ b k D (IX hS.st hm) m3 λw' hw1 hw2 hw3=>?_;refine h w.heap.size (Maps.size D) M0 H0 σ0 w0 σ _ _ Q (hS.az (g':=.rg b w.heap.size F (λu v=>(F u v).isSome) (Maps.size D) none) hw2 dB ⟨m1,hS.bT.size,m2,λi o ho hb=>?_,k,D,_,hw1,m4,λu v hu hv=>(m4 u v hu hv).1,by simp⟩ hd (.cst _)) hQ;have:=(hS.st.a2.lt i o _ ho hb).1;omega
theorem OpsG.next (hT:MapT P T K E){it:Operand}(hop:o.op=.next it false)(hg:o.guard=none)(hd:sF n o.dst=true){b r wH:Nat}{F:FM}{left:Int->Int->Bool}{cur:Option (Int × Int × Int)}(hit:fC e it=.cst (FK r))
  (h1:(∀ u v,D4 u->D4 v->left u v=false)->OpsG P K E n ops l X (.rg b r F left wH cur) (pG e o.dst (.tup [.bool false])) H)
  (h2:∀ u v c cnt',D4 u->D4 v->left u v=true->F u v=some c->cnt'<wH->OpsG P K E n ops l X (.rg b r F (λu' v'=>left u' v'&&!decide (u'=u/\v'=v)) cnt' (some (u,v,c))) (pG e o.dst (.tup [.bool true,.agg [.int .i64 u,.int .i64 v],.int .i64 c])) H) :
  OpsG P K E n ops (o :: l) X (.rg b r F left wH cur) e H :=
 λM0 H0 σ0 w0 σ a w Q hS hQ=>by
 obtain ⟨m1,m2,m3,m4,k,D,lf,m5,m6,m7,m8⟩:=hS.map;have hcm:∀ ad:Addr,ad.block=r->w.cell? ad=none:=by obtain ⟨es,clock,since,seen,c0,hb,F',hn,hD,hr,_⟩:=m5;exact Uu hr
 refine wpList_next_ranges w hg it hop K hT.cv (plainElem P E) (λp:Int × Int=>kv p.1 p.2) (Value.int .i64) (λkey l hkey=>?_) (λv y hv=>?_) b r k D lf wH (IX hS.st hit) m5 (λhc hl=>?_) λx c l' y w' cnt' hkey hlk hv hat hrg hlt hgr hsz hen=>?_
 .obtain ⟨u,v,_,_,rfl⟩:=hT.dH key l hkey;exact ⟨(u,v),rfl⟩
 .obtain ⟨c,rfl,_⟩:=plainElem_int_inv hT.e hv;exact ⟨c,rfl⟩
 .refine h1 (λu v hu hv=>by rw [<- m7 u v hu hv];exact hl _) M0 H0 σ0 w0 σ _ _ Q (hS.az (row:=none) ⟨rfl,rfl,rfl,aZ _,λ_ _ _=>rfl⟩ dB hS.map hd (GN (vs:=[_]) rfl λj y d hy hd=>?_)) hQ;match j with
  | 0=>simp at hy hd;subst hy;subst hd;exact .bool _
  | j+1=>simp at hy
 .obtain ⟨u,v⟩:=x;simp only at hkey hen;obtain ⟨u',v',hu,hv',he⟩:=hT.dH _ _ hkey;simp only [kv,Value.agg.injEq,Array.mk.injEq,List.cons.injEq,Value.int.injEq,true_and,and_true] at he;obtain ⟨rfl,rfl⟩:=he;rw [hT.cw u v hu hv'] at hkey;cases hkey
  obtain ⟨c',ec,rfl,hwc⟩:=plainElem_int_inv hT.e hv;cases ec
  have hhas:=Maps.has_true_of_atKey hat
  obtain ⟨r1,r2⟩:=m6 u v hu hv';rw [hhas] at r1;obtain ⟨c2,hc2⟩:=lH.1 r1.symm;have hcc:c2=c:=by
   have e1:=r2 c2 hc2 .nil;rw [hat .nil] at e1;simp at e1;exact e1.symm
  subst hcc;refine h2 u v c2 cnt' hu hv' (by rw [<- m7 u v hu hv'];exact hlk) hc2 hlt M0 H0 σ0 w0 σ _ _ Q (hS.az (g':=.rg b r F (λu' v'=>left u' v'&&!decide (u'=u/\v'=v)) cnt' (some (u,v,c2))) hgr (λb' hb'=>by cases hb';exact ⟨m2,m4,hcm⟩) ⟨m1,m2,m3,m4,k,D,_,hrg,m6,λa1 a2 ha1 ha2=>?_,λa1 a2 a3 ha=>?_⟩ hd (GN (vs:=[_,_,_]) rfl λj y d hy hd=>?_)) hQ
  .rw [m7 a1 a2 ha1 ha2];congr 2;rw [aS];constructor
   .intro h;exact decide_eq_true (hT.inj ha1 ha2 hu hv' (WideAt.sameKey_eq h))
   .intro h;obtain ⟨rfl,rfl⟩:=of_decide_eq_true h;exact WideAt.sameKey_self (hT.cv.key (hT.cw _ _ hu hv'))
  .cases ha;exact hen
  .match j with
   | 0=>simp at hy hd;subst hy;subst hd;exact .bool _
   | 1=>simp at hy hd;subst hy;subst hd;exact Ol _ _
   | 2=>simp at hy hd;subst hy;subst hd;exact .int _ _
   | j+3=>simp at hy
theorem OpsG.entry {it:Operand}(hop:o.op=.entry it)(hg:o.guard=none)(hd:sF n o.dst=true){b r wH:Nat}{F:FM}{left:Int->Int->Bool}{u v c:Int}(hit:fC e it=.cst (FK r))
  (h:OpsG P K E n ops l X (.rg b r F left wH (some (u,v,c))) (pG e o.dst (.tup [.agg [.int .i64 u,.int .i64 v],.int .i64 c])) H):OpsG P K E n ops (o :: l) X (.rg b r F left wH (some (u,v,c))) e H :=
 λM0 H0 σ0 w0 σ a w Q hS hQ=>by
 obtain ⟨m1,m2,m3,m4,k,D,lf,m5,m6,m7,m8⟩:=hS.map;have hrun:=m8 u v c rfl;refine wpList_plain hg λK' hK'=>?_;unfold Oper.wp;have hit':=IX hS.st hit;simp only [execOp,hop,hit',hrun,Sem.run_bind,Sem.run_pure,Result.andThen,Oper.upon_value];refine hK' _ _ (h M0 H0 σ0 w0 σ _ _ Q (hS.az (row:=none) ⟨rfl,rfl,rfl,aZ _,λ_ _ _=>rfl⟩ dB hS.map hd (GN (vs:=[_,_]) rfl λj y d hy hd=>?_)) hQ);match j with
 | 0=>simp at hy hd;subst hy;subst hd;exact Ol _ _
 | 1=>simp at hy hd;subst hy;subst hd;exact .int _ _
 | j+2=>simp at hy
/-! ### calls -/
def GCalls (P:Program)(K E:TypeId)(f:FuncId)(args:UN)(H:AHeap)(Q:D->AHeap->MS->Prop):Prop :=
 Yc P f/\∀ (M0:Nat->Prop) (σ:Nat->Option Ow) (w:World) (vals:List Value),Rel M0 H σ w->RepL (dJ M0 H σ) σ H.F w vals args ->
  Calls P f vals.toArray w λe w'=>∃ v d H' σ' g,e=.returned v/\Rel M0 H' σ' w'/\RepV (dJ M0 H' σ') σ' H'.F w' v d/\Stp σ w σ' w'/\Keeps (dJ M0 H σ) σ H.F w (dJ M0 H' σ') σ' H'.F w'/\MpOk P K E σ' w.heap.size w' g/\Q d H' g
theorem KD {f:FuncId}{args:UN}{Q:D->AHeap->MS->Prop}{Q':D->AHeap->Prop}(h:GCalls P K E f args H Q)(hq:∀ d H' g,Q d H' g->Q' d H'):ACalls P f args H Q' :=
 ⟨h.1,λM0 σ w vals hR ha=>(h.2 M0 σ w vals hR ha).mono λe w' ⟨v,d,H',σ',g,a,b,c,s,k,_,q⟩=>⟨v,d,H',σ',a,b,c,s,k,hq _ _ _ q⟩⟩
def TD (P:Program)(rs:List ResultVar)(Q:D->AHeap->MS->Prop):PG:=λex g e H=>TC P rs (λd H'=>Q d H' g) ex e H
theorem AC {f:FuncId}{fn:Func}{x:Code}{rs:List ResultVar}{args:UN}{Q:D->AHeap->MS->Prop}(r:P.funcs[f]?=some fn)(s:fn.body=some x)
  (n:(fn.name=="runtime.NumGoroutine")=false) (c:args.length<=fn.ntmps) (h:WpG P K E fn.ntmps x (TD P rs Q) .no (DG args) H) (u:fn.results.toList=rs:=by exact WW):GCalls P K E f args H Q:=by
 subst u;refine ⟨⟨fn,r,n,by simp [s]⟩,λe σ w q C A=>calls_of_wp r s ?_⟩;have B:=XH C A c;refine iS (h e H σ w σ _ w ⟨B,.refl _ _,.refl _ _ _ _,trivial⟩) λL t a z=>?_;obtain ⟨g,M,p,σ',i,b,m,y,F⟩:=z;have o:DY P fn.results.toList M p (λl=>Q (Hb l) p g)->t.defers=[]/\∃ v,(results fn t.tmps).run P a=.ok v a /\
   ∃ v2 d H2 σ2 g2,Ending.returned v=.returned v2/\Rel e H2 σ2 a/\RepV (dJ e H2 σ2) σ2 H2.F a v2 d/\Stp σ w σ2 a/\Keeps (dJ e H σ) σ H.F w (dJ e H2 σ2) σ2 H2.F a/\MpOk P K E σ2 w.heap.size a g2/\Q d H2 g2:=by
  intro i;obtain ⟨N,l,J,I,G⟩:=yZ b _ _ i;obtain ⟨v,k,j⟩:=Fo (fn:=fn) J I;exact ⟨b.defers,v,k,v,_,p,σ',g,rfl,b.a2,j,m,y,F,G⟩
 cases L<;>first|exact o i|exact i.elim
theorem OpsG.call {f:FuncId}{args:UN}{Q:D->AHeap->MS->Prop}(hc:gZ e o=some (f,args))(hg:o.guard=none)(hd:sF n o.dst=true)(hA:GCalls P K E f args H Q)(h:∀ d H' g',Q d H' g'->OpsG P K E n ops l X g' (pG e o.dst d) H') :
  OpsG P K E n ops (o :: l) X .no e H:=λM0 H0 σ0 w0 σ a w Q' hS hQ=>by
 refine wpList_plain hg λK' hK'=>?_;obtain ⟨vals,hrun,hrep⟩:=Cr (P:=P) (λx _=>hS.st.bc.ev x) hc hA.1;refine BQ (args:=args) hrun ((hA.2 M0 σ w vals hS.st.a2 hrep).mono λe' w' ⟨v,d,H',σ',g',he,hR',hv,hst,hk,hM,hq⟩=>?_);exact ⟨v,he,hK' _ _ (h d H' g' hq M0 H0 σ0 w0 σ' _ _ Q' ⟨hS.st.put hR' hk hd hv,hS.bT.trans hst,hS.q.trans hk,hM.dB hS.bT.size⟩ hQ)⟩
end
end Go.Abs
end
section
set_option maxRecDepth 100000
set_option maxHeartbeats 4000000
open Go Go.Proofs Tryz
namespace Go.Abs
@[go_sem] theorem aaY (H:AHeap)(a b c d:Nat):iU H (.ptr a b c d)=.ptr a b c d:=rfl
@[go_sem] theorem Yv (a b c d:Nat):dW (.ptr a b c d)=[]:=rfl
@[go_sem] theorem abR (H:AHeap)(i:Nat):(H.aP i).next=H.next:=(RB H i).2
@[go_sem] theorem ad8 (H:AHeap)(i j:Nat):(H.aP i).get j=if j=i then (H.get i).map (λk=>{ k with fz:=true }) else H.get j:=by
 by_cases h:j=i
 .subst h;unfold AHeap.aP;cases a:H.get j<;>simp [AHeap.put,a]
 .rw [if_neg h,LF H i j h]
theorem P5 {P:Program}{md:Nat->Bool}{ops:Array Oper}{a:List Oper}{e:eF}{c:Option Tmp}{K:eF->AHeap->Prop}{f:FuncId}{args args':UN}{H:AHeap}(m:args.map T1=args')(h:fE P md ops a e c K f args' H):fE P md ops a e c K f args H:=by
 subst m;unfold fE at h ⊢;exact ⟨h.1,λo σ w b n g=>h.2 o σ w b n ⟨by simpa using g.len,λj u d l i=>by
  rw [aM,bV] at i;obtain ⟨y,k,rfl⟩:=i;exact MM (g.Z j u y l k)⟩⟩
structure Srch where
 t:Types
 p:Graph
 g:Graph
 pn:W3
 pe:W3
 inj:Bool
def V6 (y:Edge):W3:=[y.type,y.w,y.M]
def AE (l:W3)(i k:Nat):Bool:=decide (l[i]?.getD (-1)<0)||decide (l[i]?.getD (-1)=(k:Int))
def wJ (t:Types)(a b:Int):Bool:=mem (t.ao b.toNat) a
def Y6 (p:Graph)(ns:W3)(i:Nat):Edge:=⟨(p.i[i]?.getD b8).type,ns[(p.i[i]?.getD b8).w.toNat]?.getD 0,ns[(p.i[i]?.getD b8).M.toNat]?.getD 0⟩
def Az (S:Srch)(ns:W3)(i k:Nat):Bool:=decide (V6 (S.g.i[k]?.getD b8)=V6 (Y6 S.p ns i))
def Li (S:Srch)(l:W3)(k:Nat):Bool:=AE S.pn l.length k&&(!(S.inj&&mem l k)&&wJ S.t (S.p.h[l.length]?.getD 0) (S.g.h[k]?.getD 0))
def Sw (S:Srch)(ns l:W3)(k:Nat):Bool:=AE S.pe l.length k&&(!(S.inj&&mem l k)&&Az S ns l.length k)
def JQ (S:Srch)(N:Nat)(ns:W3):Nat->W3->List Part->List Part
 | 0,l,ou=>if N<=ou.length then ou else ou++[⟨ns,l⟩]
 | d+1,l,ou=>if N<=ou.length then ou else (List.range S.g.i.length).foldl (λou k=>if Sw S ns l k=true then JQ S N ns d (l++[(k:Int)]) ou else ou) ou
def B9 (S:Srch)(l:W3)(i:Nat):Bool:=decide ((l.length:Int)<=(S.p.i[i]?.getD b8).w)||decide ((l.length:Int)<=(S.p.i[i]?.getD b8).M)||(List.range S.g.i.length).any (Az S l i)
def wE (S:Srch)(l:W3):Bool:=(List.range S.p.i.length).all (B9 S l)
def Ic (S:Srch)(l:W3)(i:Nat):Bool:=decide (max (S.p.i[i]?.getD b8).w (S.p.i[i]?.getD b8).M≠(l.length:Int) - 1)||(List.range S.g.i.length).any λk=>AE S.pe i k&&Az S l i k
def u9 (S:Srch)(l:W3):Bool:=(List.range S.p.i.length).all (Ic S l)
def QJ (S:Srch)(N:Nat):Nat->W3->List Part->List Part
 | 0,l,ou=>if N<=ou.length\/wE S l=false then ou else JQ S N l S.p.i.length [] ou
 | d+1,l,ou=>if N<=ou.length\/wE S l=false then ou else (List.range S.g.h.length).foldl (λou k=>if Li S l k=true then QJ S N d (l++[(k:Int)]) ou else ou) ou
def Sn (S:Srch)(N:Nat):Nat->W3->List Part->List Part
 | 0,l,ou=>if N<=ou.length then ou else JQ S N l S.p.i.length [] ou
 | d+1,l,ou=>if N<=ou.length then ou else (List.range S.g.h.length).foldl (λou k=>if (Li S l k&&u9 S (l++[(k:Int)]))=true then Sn S N d (l++[(k:Int)]) ou else ou) ou
/-! ### all matches -/
def Gv (S:Srch)(ns:W3):Nat->W3->Yb
 | 0,l=>[l]
 | d+1,l=>((List.range S.g.i.length).filter (Sw S ns l)).flatMap λ(k:Nat)=>Gv S ns d (l++[(k:Int)])
def DE (S:Srch):Nat->W3->List Part
 | 0,l=>(Gv S l S.p.i.length []).map λes=>⟨l,es⟩
 | d+1,l=>((List.range S.g.h.length).filter (Li S l)).flatMap λ(k:Nat)=>DE S d (l++[(k:Int)])
def zR (S:Srch):List Part:=DE S S.p.h.length []
theorem Ec {α:Type}(N:Nat)(a b:List α):((a.take N)++b).take N=(a++b).take N:=by
 rw [Bb,Bb,List.take_take,Nat.min_self];grind
theorem xJ {α:Type}(N:Nat)(ok:Nat->Bool)(f:Nat->List α->List α)(x:Nat->List α)(hf:∀ k ou,ou.length<=N->f k ou=(ou++x k).take N) :
  ∀ (l:List Nat) (ou:List α),ou.length<=N->l.foldl (λou k=>if ok k=true then f k ou else ou) ou=(ou++(l.filter ok).flatMap x).take N
 | [],ou,h=>by simp [aG h]
 | k :: l,ou,h=>by
  rw [rT];by_cases hk:ok k=true
  .rw [if_pos hk,hf k ou h,xJ N ok f x hf l _ (by simp;omega),Ec,List.filter_cons_of_pos hk,oA,List.append_assoc]
  .rw [if_neg hk,xJ N ok f x hf l _ h,List.filter_cons_of_neg hk]
theorem tJ {α:Type}{N:Nat}{a x:List α}(h:a.length<=N)(b:N<=a.length):a=(a++x).take N:=by grind
theorem Mh (S:Srch)(N:Nat)(ns:W3):∀ (d:Nat) (l:W3) (ou:List Part),ou.length<=N->JQ S N ns d l ou=(ou++(Gv S ns d l).map λes=>(⟨ns,es⟩:Part)).take N
 | 0,l,ou,h=>by
  simp only [JQ,Gv];split
  .rename_i h2;exact tJ h h2
  .rw [aG (by simp;omega)];rfl
 | d+1,l,ou,h=>by
  simp only [JQ,Gv];split
  .rename_i h2;exact tJ h h2
  .rw [xJ N (Sw S ns l) (λk ou=>JQ S N ns d (l++[(k:Int)]) ou) (λk=>(Gv S ns d (l++[(k:Int)])).map λes=>(⟨ns,es⟩:Part)) (λk ou ho=>Mh S N ns d _ ou ho) _ _ h,List.map_flatMap]
theorem IW {S:Srch}{ns:W3}:∀ (d:Nat) (l es:W3),es∈Gv S ns d l->∀ i,l.length<=i->i<l.length+d->∃ k,k<S.g.i.length/\AE S.pe i k=true/\Az S ns i k=true
 | 0,l,es,_,i,h1,h2=>by omega
 | d+1,l,es,h,i,h1,h2=>by
  simp only [Gv,bK,fK,bA] at h;obtain ⟨k,⟨hk,ho⟩,hr⟩:=h;by_cases hi:i=l.length
  .simp only [Sw,aN] at ho;exact ⟨k,hk,hi ▸ ho.1,hi ▸ ho.2.2⟩
  .exact IW d _ es hr i (by simp;omega) (by simp;omega)
theorem AH {S:Srch}:∀ (d:Nat) (l:W3) (m:Part),m∈DE S d l->(∃ r,m.h=l++r)/\m.i∈Gv S m.h S.p.i.length []
 | 0,l,m,h=>by
  simp only [DE,aW] at h;obtain ⟨es,he,rfl⟩:=h;exact ⟨⟨[],by simp⟩,he⟩
 | d+1,l,m,h=>by
  simp only [DE,bK,fK,bA] at h;obtain ⟨k,_,hr⟩:=h;obtain ⟨⟨r,hr1⟩,hr2⟩:=AH d _ m hr;exact ⟨⟨(k:Int) :: r,by rw [hr1];simp⟩,hr2⟩
theorem SR {p:Graph}{l r:W3}{i:Nat}(b:(p.i[i]?.getD b8).w.toNat<l.length)(a:(p.i[i]?.getD b8).M.toNat<l.length):Y6 p (l++r) i=Y6 p l i:=by
 unfold Y6;rw [aR b,aR a]
theorem IV {S:Srch}(q:graphF S.p=0)(d:Nat)(l:W3)(h:wE S l=false):DE S d l=[]:=by
 rw [oR];intro m s;obtain ⟨⟨r,o⟩,t⟩:=AH d l m s;simp only [wE,G1,bA] at h;obtain ⟨i,e,j⟩:=h;have y:=((dP q).2 _ (aC e)).2;simp only [B9,aA e,Option.getD_some,cZ,decide_eq_true_eq,not_or,bD,bA,not_exists,not_and,Int.not_le] at j;obtain ⟨⟨x,w⟩,n⟩:=j;obtain ⟨k,v,B,g⟩:=IW _ _ _ t i (eB _) (eQ e);apply n k v;unfold Az at g ⊢;rw [o,SR (by rw [aA e,Option.getD_some];omega) (by rw [aA e,Option.getD_some];omega)] at g;exact g
theorem Ur {S:Srch}(s:graphF S.p=0)(d:Nat)(l:W3)(h:u9 S l=false):DE S d l=[]:=by
 rw [oR];intro m t;obtain ⟨⟨r,q⟩,u⟩:=AH d l m t;simp only [u9,G1,bA] at h;obtain ⟨i,e,n⟩:=h;have z:=((dP s).2 _ (aC e)).2;simp only [Ic,aA e,Option.getD_some,cZ,decide_eq_true_eq,not_or,bD,bA,not_exists,not_and,ne_eq,gU,aN] at n;obtain ⟨y,o⟩:=n;obtain ⟨k,x,w,j⟩:=IW _ _ _ u i (eB _) (eQ e);refine o k x w ?_;unfold Az at j ⊢;rw [q,SR (by rw [aA e,Option.getD_some];omega) (by rw [aA e,Option.getD_some];omega)] at j;exact j
theorem QI {S:Srch}(hp:graphF S.p=0)(N:Nat):∀ (d:Nat) (l:W3) (ou:List Part),ou.length<=N->QJ S N d l ou=(ou++DE S d l).take N
 | 0,l,ou,h=>by
  simp only [QJ];split
  .rename_i h2;rcases h2 with h2|h2
   .exact tJ h h2
   .rw [IV hp 0 l h2,dS,aG h]
  .rw [Mh S N l _ _ _ h];rfl
 | d+1,l,ou,h=>by
  simp only [QJ];split
  .rename_i h2;rcases h2 with h2|h2
   .exact tJ h h2
   .rw [IV hp _ l h2,dS,aG h]
  .rw [xJ N (Li S l) (λk ou=>QJ S N d (l++[(k:Int)]) ou) (λk=>DE S d (l++[(k:Int)])) (λk ou ho=>QI hp N d _ ou ho) _ _ h];rfl
theorem FS {α:Type}(ok po:Nat->Bool)(x:Nat->List α)(h:∀ k,po k=false->x k=[]):∀ l:List Nat,(l.filter λk=>ok k&&po k).flatMap x=(l.filter ok).flatMap x
 | []=>rfl
 | k :: l=>by
  cases h1:ok k<;>cases h2:po k<;>simp [h1,h2,FS ok po x h l,h k]
theorem Rf {S:Srch}(hp:graphF S.p=0)(N:Nat):∀ (d:Nat) (l:W3) (ou:List Part),ou.length<=N->Sn S N d l ou=(ou++DE S d l).take N
 | 0,l,ou,h=>by
  simp only [Sn];split
  .rename_i h2;exact tJ h h2
  .rw [Mh S N l _ _ _ h];rfl
 | d+1,l,ou,h=>by
  simp only [Sn];split
  .rename_i h2;exact tJ h h2
  .rw [xJ N (λk=>Li S l k&&u9 S (l++[(k:Int)])) (λk ou=>Sn S N d (l++[(k:Int)]) ou) (λk=>DE S d (l++[(k:Int)])) (λk ou ho=>Rf hp N d _ ou ho) _ _ h];rw [FS (Li S l) (λk=>u9 S (l++[(k:Int)])) _ λk hk=>Ur hp d _ hk];rfl
theorem Eg (S:Srch){N:Nat}(ns:W3)(d:Nat)(l:W3){a:List Part}(h:a.length<=N):(JQ S N ns d l a).length<=N:=by
 rw [Mh S N ns d l a h];exact List.length_take_le _ _
theorem U8 {S:Srch}(b:graphF S.p=0){N:Nat}(d:Nat)(l:W3){a:List Part}(h:a.length<=N):(QJ S N d l a).length<=N:=by
 rw [QI b N d l a h];exact List.length_take_le _ _
theorem Re {S:Srch}(b:graphF S.p=0){N:Nat}(d:Nat)(l:W3){a:List Part}(h:a.length<=N):(Sn S N d l a).length<=N:=by
 rw [Rf b N d l a h];exact List.length_take_le _ _
theorem Ho {S:Srch}{N:Nat}(ns:W3)(d:Nat)(l:W3){a:List Part}(h:N<=a.length):JQ S N ns d l a=a:=by cases d<;>simp only [JQ,if_pos h]
def Dk (l:List Attr)(vs:W3)(k:Nat):Int:=if vs[k]?.getD 0<(l[k]?.getD oB).aw\/(l[k]?.getD oB).ax<vs[k]?.getD 0 then 6 else 0
def iJ (t:Types)(kind:Int)(vs:W3):Int :=
 if (t.h.length:Int)<=kind then 6 else if nI t kind.toNat=true then 13 else if vs.length≠(bI t kind).length then 20 else bU (Dk (bI t kind) vs) 0 (bI t kind).length
theorem Q7 (t:Types)(q:t.ok)(a:Int)(y:0<=a)(vs:W3):Pua 268 [t.d,dI a,dLI vs] (dI (iJ t a vs)):=by
 refine Tz.p0 func268 rfl λQ i Y=>?_;refine d8 (λw=>?_) λw=>?_
 .have hE:iJ t a vs=6:=by unfold iJ;rw [if_pos aD]
  exact wv (h:=i _ _ (by simp [go_sem,hE]))
 .have hkn:a.toNat<t.h.length:=aD;have u:nI t a.toNat=t.h[a.toNat].ce:=by simp [nI,aA hkn]
  have b:iJ t a vs=if nI t a.toNat=true then 13 else if vs.length≠(bI t a).length then 20 else bU (Dk (bI t a) vs) 0 (bI t a).length:=by unfold iJ;rw [if_neg aD]
  rw [u] at b;have Y:=xa1 Y (aA hkn) @NodeTy.c.eq_1;refine d8 (λn=>?_) λn=>?_
  .rw [if_pos (eQ n)] at b;exact wv (h:=i _ _ (by simp [go_sem,b]))
  .rw [if_neg (eQ n)] at b;refine wv (h:=aB (l7 t q a) wl ?_);refine d8 (λv=>?_) λv=>?_
   .rw [if_pos aD] at b;exact wv (h:=i _ _ (by simp [go_sem,b]))
   .rw [if_neg aD] at b;have r:vs.length=(bI t a).length:=aD;refine wv (h:=aY (λk e H=>(e 3=.adr t.c/\e 2=dLI vs/\e 7=.list ((bI t a).map Attr.c)/\e 9=dI k)/\(k<=(bI t a).length)/\(bU (Dk (bI t a) vs) k ((bI t a).length - k)=iJ t a vs)) (λk=>(bI t a).length - k) 0 ⟨wg,wi,(by exact b.symm)⟩ λz m k e H l=>?_);obtain ⟨x,s,p⟩:=l;have Y:=wa Y x;refine wv (h:=?_);repeat first|intro _|refine ⟨iD,?_⟩
    refine wq (λj=>?_) λj=>?_
    .have hv:k<vs.length:=aD;have f:=eV (Dk (bI t a) vs) j;rw [p] at f;have g:Dk (bI t a) vs k=if vs[k]<(bI t a)[k].aw\/(bI t a)[k].ax<vs[k] then 6 else 0:=by simp only [Dk,aA hv,aA j,Option.getD_some]
     have Y:=xa3 Y j (aA hv) (aA j) @Attr.c.eq_1;refine d8 (λo=>?_) λo=>?_
     .rw [if_pos aD] at g;rw [g,if_pos aD] at f;exact wv (h:=i _ _ (by simp [go_sem,f]))
     .rw [if_neg aD] at g;rw [g,if_neg aD] at f;exact wo (h:=wx m (k+1) ⟨wg,wj,(by exact f.symm)⟩)
    .have hZ:iJ t a vs=0:=by rw [<- p,(aD:(bI t a).length - k=0)];rfl
     exact wv (h:=i _ _ (by simp [go_sem,hZ]))
def gY (f:Nat->Int):Nat->Nat->Int × Int
 | k,0=>(-1,0)
 | k,n+1=>if f k≠0 then ((k:Int),f k) else gY f (k+1) n
theorem s8 (f:Nat->Int){k n:Nat}(h:k<n):gY f k (n - k)=if f k≠0 then ((k:Int),f k) else gY f (k+1) (n - (k+1)):=by
 obtain ⟨m,a⟩:∃ m,n - k=m+1:=⟨n - k - 1,aD⟩;rw [a,(aD:n - (k+1)=m)];rfl
theorem vL (f:Nat->Int):∀ n k,(gY f k n).2=bU f k n
 | 0,k=>rfl
 | n+1,k=>by simp only [gY,bU];split<;>simp_all [vL f n]
def Gs (t:Types)(h:Host)(i:Nat):Int:=iJ t (h.j.h[i]?.getD 0) (h.k[i]?.getD [])
def Um (t:Types)(h:Host)(i:Nat):Int:=if (t.i.length:Int)<=(h.j.i[i]?.getD b8).type then 6 else
 if o6 t (h.j.i[i]?.getD b8).type (gN h.j (h.j.i[i]?.getD b8).w) (gN h.j (h.j.i[i]?.getD b8).M)=true then 0 else 13
def oY (t:Types)(h:Host):Int × Int :=
 if (cW t).2≠0 then (-1,(cW t).2) else if graphF h.j≠0 then (-1,graphF h.j) else if h.k.length≠h.j.h.length then (-1,20)
 else if (gY (Gs t h) 0 h.j.h.length).2≠0 then gY (Gs t h) 0 h.j.h.length else gY (Um t h) 0 h.j.i.length
def fX (t:Types)(h:Host):Int:=(oY t h).2
theorem Aj (t:Types)(y:t.ok)(h:Host):Pua 188 [t.d,h.d] (.tup [dI (oY t h).1,dI (oY t h).2]):=by
 refine Tz.pK ⟨λt=>t==12,λ_=>[]⟩ func188 rfl (λQ l=>?_);have Y:=wa @Host.d.eq_1 @Host.c.eq_1;refine wv (h:=aB (r9 t y) wl ?_);refine dK (λE=>?_) λE=>?_
 .have hE:oY t h=(-1,(cW t).2):=by unfold oY;rw [if_pos (eQ E)]
  exact wv (h:=l _ _ (by simp [go_sem,hE]))
 .have hE0:oY t h=if graphF h.j≠0 then (-1,graphF h.j) else if h.k.length≠h.j.h.length then (-1,20) else if (gY (Gs t h) 0 h.j.h.length).2≠0 then gY (Gs t h) 0 h.j.h.length else gY (Um t h) 0 h.j.i.length:=by unfold oY;rw [if_neg (eQ E)]
  refine wv (h:=aB (kH h.j) wl ?_);refine dK (λs=>?_) λs=>?_
  .rw [if_pos (eQ s)] at hE0;exact wv (h:=l _ _ (by simp [go_sem,hE0]))
  .rw [if_neg (eQ s)] at hE0;have q:graphF h.j=0:=by simpa using s
   have p:=dP q;have L:=bR q;refine d8 (λM=>?_) λM=>?_
   .rw [if_pos aD] at hE0;exact wv (h:=l _ _ (by simp [go_sem,hE0]))
   .rw [if_neg aD] at hE0;refine wv (h:=aY (λi e H=>(e 2=.adr t.c/\e 3=.adr h.c/\e 9=dI i)/\(i<=h.j.h.length)/\(gY (Gs t h) i (h.j.h.length - i)=gY (Gs t h) 0 h.j.h.length)) (λi=>h.j.h.length - i) 0 ⟨wg,wi,(by rfl)⟩ λU D i e H B=>?_);obtain ⟨O,R,I⟩:=B;have Y:=wa Y O;refine d8 (λg=>?_) λg=>?_
    .have hv:i<h.k.length:=aD;have z:0<=h.j.h[i]:=(p.1 _ (aC g)).1;have a:=s8 (Gs t h) g;rw [I] at a;have r:Gs t h i=iJ t h.j.h[i] h.k[i]:=by simp only [Gs,aA hv,aA g,Option.getD_some]
     have Y:=xa3 Y g (aA hv) (aA g) @cL.eq_1;refine wo (h:=aI (Q7 t y h.j.h[i] z h.k[i]) wl ?_);refine d8 (λk=>?_) λk=>?_
     .rw [r,if_pos (eQ k)] at a;rw [a,if_pos (eQ k)] at hE0;exact wv (h:=l _ _ (by simp [go_sem,hE0]))
     .rw [r,if_neg (eQ k)] at a;exact wo (h:=wx D (i+1) ⟨wg,wj,(a.symm)⟩)
    .have hN0:gY (Gs t h) 0 h.j.h.length=(-1,0):=by rw [<- I,(aD:h.j.h.length - i=0)];rfl
     rw [hN0,if_neg dB] at hE0;refine wv (h:=aY (λj e H=>(e 2=.adr t.c/\e 3=.adr h.c/\e 11=dI j)/\(j<=h.j.i.length)/\(gY (Um t h) j (h.j.i.length - j)=oY t h)) (λj=>h.j.i.length - j) 0 ⟨wg,wi,(hE0.symm)⟩ λT C j e H A=>?_);obtain ⟨N,P,G⟩:=A;have Y:=wa Y N;refine d8 (λf=>?_) λf=>?_
     .obtain ⟨x,w⟩:=fD (h.j.i[j]);have v:=(p.2 _ (aC f)).2;rw [<- w] at v;have o:x.w.toNat<h.j.h.length:=aD;have n:x.M.toNat<h.j.h.length:=aD;have a:=s8 (Um t h) f;rw [G] at a;have b:Um t h j=if (t.i.length:Int)<=x.type then 6 else if o6 t x.type h.j.h[x.w.toNat] h.j.h[x.M.toNat]=true then 0 else 13:=by simp only [Um,gN,aA f,Option.getD_some,<- w,aA o,aA n]
      have Y:=xa4 Y f (aA f) (Eq.symm w) (aA o) (aA n);refine d8 (λF=>?_) λF=>?_
      .rw [if_pos aD] at b;rw [b,if_pos aD] at a;exact wv (h:=l _ _ (by simp [go_sem,a]))
      .rw [if_neg aD] at b;refine wo (h:=aI (yJ t y x.type h.j.h[x.w.toNat] h.j.h[x.M.toNat]) wl ?_);refine d8 (λm=>?_) λm=>?_
       .rw [if_neg (eQ m)] at b;rw [b,if_pos aD] at a;exact wv (h:=l _ _ (by simp [go_sem,a]))
       .rw [if_pos (eQ m)] at b;rw [b,if_neg aD] at a;exact wo (h:=wx C (j+1) ⟨wg,wj,(a.symm)⟩)
     .have hZ:oY t h=(-1,0):=by rw [<- G,(aD:h.j.i.length - j=0)];rfl
      exact wv (h:=l _ _ (by simp [go_sem,hZ]))
theorem Ah (l:W3):Pua 325 [dLI l] (.bool (decide l.Nodup)):=by
 refine Tz.p0 func325 rfl λQ u Y=>?_;refine wv (h:=aY (λi e H=>(e 0=dLI l/\e 3=dI i)/\(i<=l.length)/\((l.take i).Nodup)) (λi=>l.length - i) 0 ⟨wg,wi,(by simp)⟩ λD q i e H n=>?_);obtain ⟨z,B,r⟩:=n;have Y:=wa Y z;refine wv (h:=?_);repeat first|intro _|refine ⟨iD,?_⟩
 refine wq (λd=>?_) λd=>?_
 .have Y:=xa1 Y d (aA d);refine wv (h:=aY (λk e H=>(e 0=dLI l/\e 3=dI i/\e 4=dI k)/\(k<=i)/\(∀ j,j<k->∀ g:j<l.length,l[j]≠l[i])) (λk=>i - k) 0 ⟨wg,wi,(by intro j g;omega)⟩ λC p k e H m=>?_);obtain ⟨y,A,c⟩:=m;have Y:=wa Y y;refine dK (λv=>?_) λv=>?_
  .have hkl:k<l.length:=aD;have Y:=xa1 Y v (aA hkl);refine d8 (λs=>?_) λs=>?_
   .have hnd:¬ l.Nodup:=λo=>by
     have:=(mR (h₀:=d) (h₁:=hkl) o).1 s;omega
    exact wv (h:=u _ _ (by simp [go_sem,hnd]))
   .exact wo (h:=wx p (k+1) ⟨wg,wj,(by intro j g f;rcases cH j k with hjk|hjk;exact c j hjk f;(obtain rfl:j=k:=aD;exact λw=>s w.symm))⟩)
  .have hD2:(l.take (i+1)).Nodup:=by
    rw [aE d,n9];refine ⟨r,by simp,λa x b t=>?_⟩;rw [bG] at t;subst t;obtain ⟨j,g,rfl⟩:=F6.1 x;exact c j aD _
   exact wo (h:=wx q (i+1) ⟨wg,wj,(by exact hD2)⟩)
 .have o:l.Nodup:=by rw [aG aD] at r;exact r
  exact wv (h:=u _ _ (by simp [go_sem,o]))
structure G17 (t:Types) (p g:Graph):Prop where
 v:t.aj
 gp:graphF p=0
 gg:graphF g=0
 tp:∀ a∈p.h,0<=a/\a<t.h.length
 tg:∀ a∈g.h,0<=a/\a<t.h.length
theorem G9 {t:Types}{g:Graph}(h:mB t g=true):∀ a∈g.h,0<=a/\a<t.h.length:=λa ha=>by
 simp only [mB,aN,cD,fM,insideF] at h;have:=h.1 a ha;simpa using this
theorem oP {t:Types}{p g:Graph}(h:eH t p g=0):G17 t p g:=by
 unfold eH at h;split at h
 .exact absurd h (by assumption)
 .rename_i h1;split at h
  .exact absurd h (by assumption)
  .rename_i h2;split at h
   .exact absurd h (by assumption)
   .rename_i h3;split at h
    .cases h
    .rename_i h4;simp only [cZ,cD,not_or,Bool.not_eq_false] at h4;exact ⟨mW (eQ h1),by simpa using h2,by simpa using h3,G9 h4.1,G9 h4.2⟩
def mNE (t:Types)(p g:Graph)(m:Part)(i:Nat):Int :=
 if m.h[i]?.getD 0<0\/(g.h.length:Int)<=m.h[i]?.getD 0 then 6
 else if wJ t (p.h[i]?.getD 0) (g.h[(m.h[i]?.getD 0).toNat]?.getD 0)=true then 0 else 13
def matchE (t:Types)(p g:Graph)(m:Part)(inj:Bool):Int :=
 if m.h.length≠p.h.length\/m.i.length≠p.i.length then 20
 else if bU (mNE t p g m) 0 p.h.length≠0 then bU (mNE t p g m) 0 p.h.length
 else if bU (mapEE p g m) 0 p.i.length≠0 then bU (mapEE p g m) 0 p.i.length
 else if inj=true/\(¬ m.h.Nodup\/¬ m.i.Nodup) then 5 else 0
def checkE (t:Types)(p g:Graph)(m:Part)(inj:Bool):Int:=if eH t p g≠0 then eH t p g else matchE t p g m inj
theorem BB (t:Types)(c:t.aj)(a b:Int)(f:0<=a)(g:a<t.h.length)(e:0<=b):Pua 119 [t.d,dI a,dI b] (.bool (wJ t b a)):=by
 have:=s4 t c b e a.toNat aD;rw [Int.toNat_of_nonneg f] at this;exact this
theorem OK (t:Types)(p g:Graph)(s:G17 t p g)(m:Part)(f:Bool):Pua 273 [t.d,p.d,g.d,m.d,.bool f] (dI (matchE t p g m f)):=by
 have T:=bR s.gp;have S:=bR s.gg;have A:=(dP s.gp).2;refine Tz.pK ⟨λt=>t==13||t==14,λr=>match r with|15=>[(0,14),(1,14),(3,14),(4,14),(5,14),(6,14),(7,14),(8,14),(10,14),(11,14),(12,14),(13,14),(0,15),(1,15),(3,15),(4,15),(5,15),(6,15),(7,15),(8,15),(10,15),(11,15),(12,15),(13,15),(14,15),(5,16),(6,16),(7,16),(8,16),(10,16),(11,16),(12,16),(13,16)]|_=>[]⟩ func273 rfl (λQ n=>?_);have Y:=trivial;refine d8 (λV=>?_) λV=>?_
 .have hM:matchE t p g m f=20:=by unfold matchE;rw [if_pos aD]
  exact wv (h:=n _ _ (by simp [go_sem,hM]))
 .have hM:matchE t p g m f=(if bU (mNE t p g m) 0 p.h.length≠0 then bU (mNE t p g m) 0 p.h.length else if bU (mapEE p g m) 0 p.i.length≠0 then bU (mapEE p g m) 0 p.i.length else if f=true/\(¬ m.h.Nodup\/¬ m.i.Nodup) then 5 else 0):=by unfold matchE;rw [if_neg aD]
  have R:m.h.length=p.h.length:=aD;have P:m.i.length=p.i.length:=aD;refine wv (h:=aY (λi e H=>(e 5=.adr t.c/\e 6=.adr p.c/\e 7=.adr g.c/\e 8=.adr m.c/\e 4=.bool f/\e 11=dI i)/\(i<=m.h.length)/\(bU (mNE t p g m) i (p.h.length - i)=bU (mNE t p g m) 0 p.h.length)) (λi=>m.h.length - i) 0 ⟨wg,wi,(by rfl)⟩ λI0 G i e H C=>?_);obtain ⟨X,hi,L⟩:=C;have Y:=wa Y X;refine d8 (λy=>?_) λy=>?_
  .have hn:i<p.h.length:=aD;have a:=eV (mNE t p g m) hn;rw [L] at a;have j:mNE t p g m i=(if m.h[i]<0\/(g.h.length:Int)<=m.h[i] then 6 else if wJ t p.h[i] (g.h[m.h[i].toNat]?.getD 0)=true then 0 else 13):=by simp only [mNE,aA y,aA hn,Option.getD_some]
   have E:=s.tp _ (aC hn);have Y:=xa2 Y y (aA y) (aA hn);refine d8 (λU=>?_) λU=>?_
   .rw [if_pos aD] at j;rw [j,if_pos aD] at a;rw [a,if_pos aD] at hM;exact wv (h:=n _ _ (by simp [go_sem,hM]))
   .have hkb:m.h[i].toNat<g.h.length:=aD;rw [if_neg aD,aA hkb,Option.getD_some] at j;have x:=s.tg _ (aC hkb);have Y:=wa Y (aA hkb);refine wo (h:=aI ((BB t s.v g.h[m.h[i].toNat] p.h[i] x.1 x.2 E.1)) wl ?_);refine d8 (λI=>?_) λI=>?_
    .rw [if_neg (eQ I)] at j;rw [j,if_pos aD] at a;rw [a,if_pos aD] at hM;exact wv (h:=n _ _ (by simp [go_sem,hM]))
    .rw [if_pos (eQ I)] at j;rw [j,if_neg aD] at a;exact wo (h:=wx G (i+1) ⟨wg,wj,(a.symm)⟩)
  .have hN0:bU (mNE t p g m) 0 p.h.length=0:=by rw [<- L,(aD:p.h.length - i=0)];rfl
   rw [hN0,if_neg aD] at hM;refine wv (h:=aY (λk e H=>(e 5=.adr t.c/\e 6=.adr p.c/\e 7=.adr g.c/\e 8=.adr m.c/\e 4=.bool f/\e 12=dI k)/\(k<=m.i.length)/\(bU (mapEE p g m) k (p.i.length - k)=bU (mapEE p g m) 0 p.i.length)) (λk=>m.i.length - k) 0 ⟨wg,wi,(by rfl)⟩ λI2 F k e H B=>?_);obtain ⟨W,hk,M⟩:=B;have Y:=wa Y W;refine d8 (λl=>?_) λl=>?_
   .have hn:k<p.i.length:=aD;have a:=eV (mapEE p g m) hn;rw [M] at a;have Z:=A _ (aC hn);have w:p.i[k].w.toNat<m.h.length:=aD;have u:p.i[k].M.toNat<m.h.length:=aD;have b:mapEE p g m k=(if m.i[k]<0\/(g.i.length:Int)<=m.i[k] then 6 else if p.i[k].type≠(g.i[m.i[k].toNat]?.getD b8).type then 13 else if m.h[p.i[k].w.toNat]≠(g.i[m.i[k].toNat]?.getD b8).w\/m.h[p.i[k].M.toNat]≠(g.i[m.i[k].toNat]?.getD b8).M then 11 else 0):=by
     simp only [mapEE,aA l,aA hn,Option.getD_some,aA w,aA u]
    have Y:=xa4 Y l (aA l) (aA hn) (aA w) (aA u);refine d8 (λK=>?_) λK=>?_
    .rw [if_pos aD] at b;rw [b,if_pos aD] at a;rw [a,if_pos aD] at hM;exact wv (h:=n _ _ (by simp [go_sem,hM]))
    .have hkb:m.i[k].toNat<g.i.length:=aD;rw [if_neg aD,aA hkb,Option.getD_some] at b;have Y:=wa Y (aA hkb);refine d8 (λq=>?_) λq=>?_
     .rw [if_pos q] at b;rw [b,if_pos aD] at a;rw [a,if_pos aD] at hM;exact wv (h:=n _ _ (by simp [go_sem,hM]))
     .rw [if_neg (eQ q)] at b;refine d8 (λJ=>?_) λJ=>?_
      .rw [if_pos aD] at b;rw [b,if_pos aD] at a;rw [a,if_pos aD] at hM;exact wv (h:=n _ _ (by simp [go_sem,hM]))
      .rw [if_neg aD] at b;rw [b,if_neg aD] at a;exact wo (h:=wx F (k+1) ⟨wg,wj,(a.symm)⟩)
   .have hE0:bU (mapEE p g m) 0 p.i.length=0:=by rw [<- M,(aD:p.i.length - k=0)];rfl
    rw [hE0,if_neg aD] at hM;refine wo (h:=aK (λD=>Ah m.h) (λD=>wl) ?_);refine wo (h:=aK (λD=>Ah m.i) (λD=>wl) ?_);refine d8 (λo=>?_) λo=>?_
    .rw [if_pos (by simpa [pJ] using o)] at hM;exact wv (h:=n _ _ (by simp [go_sem,hM]))
    .rw [if_neg (by simpa [pJ] using o)] at hM;exact wv (h:=n _ _ (by simp [go_sem,hM]))
theorem Ai (t:Types)(e:t.ok)(p g:Graph)(m:Part)(a:Bool):Pua 192 [t.d,p.d,g.d,m.d,.bool a] (dI (checkE t p g m a)):=by
 refine Tz.p0 func192 rfl λQ c Y=>?_;refine wv (h:=aB (u4 t e p g) wl ?_);refine dK (λb=>?_) λb=>?_
 .exact wv (h:=c _ _ (by simp [go_sem,checkE,b]))
 .refine wv (h:=aB (OK t p g (oP (eQ b)) m a) wl ?_);exact wv (h:=c _ _ (by simp [go_sem,checkE,b]))
/-! ### the search -/
def Srch.cells (S:Srch)(most:Int)(fd:D):UN:=[.list (S.t.h.map NodeTy.c),.list (S.t.i.map EdgeTy.c),dLI S.p.h,.list (S.p.i.map Edge.c),dLI S.g.h,.list (S.g.i.map Edge.c),dLI S.pn,dLI S.pe,.bool S.inj,dI most,fd]
theorem HR (S:Srch)(a:Int)(f:D)(o:f.P=true)(l:W3)(n:Int):Pua 361 [.adr (S.cells a f),dLI l,dI n] (.bool (S.inj&&mem l n)):=by
 refine Tz.p0 func361 rfl λQ s _=>?_;have v:∀ b:Bool,D.L (S.cells a f)=true:=λ_=>by simp [go_sem,Srch.cells,o]
 have Y:=@Srch.cells.eq_1;refine wv (h:=aY (λi e H=>(e 0=.adr (S.cells a f)/\e 1=dLI l/\e 2=dI n/\e 7=dI i)/\(i<=l.length)/\(∀ j,j<i->∀ d:j<l.length,l[j]≠n)) (λi=>l.length - i) 0 ⟨wg,wi,(by intro j d;omega)⟩ λy p i e H m=>?_);obtain ⟨w,x,t⟩:=m;have Y:=wa Y w;refine wv (h:=?_);repeat first|intro _|refine ⟨iD,?_⟩
 refine wq (λc=>?_) λc=>?_
 .have hil:i<l.length:=c.1;have Y:=xa1 Y c (aA hil);refine d8 (λr=>?_) λr=>?_
  .have g:mem l n=true:=(mem_iff _ _).2 (r ▸ aC hil);have q:S.inj=true:=c.2;exact wv (h:=s _ _ (by simp [go_sem,g,q]))
  .exact wo (h:=wx p (i+1) ⟨wg,wj,(by intro j d k;rcases cH j i with hji|hji;exact t j hji k;(obtain rfl:j=i:=aD;exact r))⟩)
 .have hR:(S.inj&&mem l n)=false:=by
   cases q:S.inj
   .rfl
   .simp [q] at c;rw [gW,bQ];intro g;obtain ⟨j,d,u⟩:=aQ ((mem_iff _ _).1 g);exact t j aD d u
  exact wv (h:=s _ _ (by simp [go_sem,hR]))
end Go.Abs
end

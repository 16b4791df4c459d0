/- A map of the call's own (keys of two integers, integer eleme -/
import Derived.Test.YtiklfilfhnfagaaGreatZfF
import Derived.Test.YtiklfilfhnfagaaGreatZfJ
import Derived.Maps.RangeWalk
import Derived.DeepKeys4
set_option linter.unusedVariables false
set_option linter.unusedSimpArgs false
section
set_option maxHeartbeats 1000000
namespace Go.Abs
open Go.Maps (Keyed)
def Bx (u:Int):Prop:=-9223372036854775808≤u∧u≤9223372036854775807
theorem IG {u:Int}(h:Bx u):(Lit.int .i64 u).wf=true:=by
 obtain ⟨h1,h2⟩:=h
 simp [Lit.wf,IntKind.min,IntKind.max,IntKind.bits,IntKind.signed];omega
theorem P8 {u:Int}(h:(Lit.int .i64 u).wf=true):Bx u:=by
 simp [Lit.wf,IntKind.min,IntKind.max,IntKind.bits,IntKind.signed] at h
 exact ⟨by omega,by omega⟩
def kv (u v:Int):Value:=.agg #[.int .i64 u,.int .i64 v]
def kl (u v:Int):Lit:=.string (keyBytes [.int .i64 u,.int .i64 v])
structure MapT (P:Program) (T K E:TypeId):Prop where
 t:P.underlying T=some (.map K E)
 e:P.underlying E=some (.int .i64)
 law:Keyed P K
 kmk:∀ u v,Bx u→Bx v→keyOf P K (kv u v)=some (kl u v)
 inv:∀ key l,keyOf P K key=some l→∃ u v,Bx u∧Bx v∧key=kv u v
 z:∀ w,(zeroValue E).run P w=.ok (.int .i64 0) w
theorem AW {P:Program}{K E:TypeId}{f0 f1:Field}(hk:P.underlying K=some (.struct #[f0,f1]))(h0:f0.type=E∧f0.offset=0∧(f0.name != "_")=true)(h1:f1.type=E∧f1.offset=1∧(f1.name != "_")=true)
  (hc:P.cellsOf K=2) (hcE:P.cellsOf E=1) (d:Nat) (a b:Value):P.keyLits (d+1) K [a,b]=(P.keyLits d E [a]).bind fun x=>(P.keyLits d E [b]).map fun y=>x++y:=by
 obtain ⟨a1,a2,a3⟩:=h0
 obtain ⟨b1,b2,b3⟩:=h1
 rw [Program.keyLits.eq_def]
 simp only [hk]
 rw [if_pos (by simp [hc,a3,b3])]
 simp only [List.mapM_cons,List.mapM_nil,a1,a2,b1,b2,hcE,List.drop_zero,nG,List.take_zero,List.drop_succ_cons,bind,pure]
 cases P.keyLits d E [a]<;>simp
 cases P.keyLits d E [b]<;>simp
theorem sA {P:Program}{E:TypeId}(he:P.underlying E=some (.int .i64))(d:Nat)(v:Value)(l:List Lit):P.keyLits (d+1) E [v]=some l↔∃ u,v=.int .i64 u∧(Lit.int .i64 u).wf=true∧l=[.int .i64 u]:=by
 rw [Program.keyLits.eq_def]
 simp only [he]
 cases v<;>simp
 rename_i k n
 constructor
 ·rintro ⟨⟨rfl,h⟩,rfl⟩;exact ⟨n,⟨rfl,rfl⟩,h,rfl⟩
 ·rintro ⟨u,⟨rfl,rfl⟩,h,rfl⟩;exact ⟨⟨rfl,h⟩,rfl⟩
theorem Su {P : Program} {T K E : TypeId} {f0 f1 : Field} (ht : P.underlying T = some (.map K E)) (he : P.underlying E = some (.int .i64)) (hk : P.underlying K = some (.struct #[f0, f1])) (h0 : f0.type = E ∧ f0.offset = 0 ∧ (f0.name != "_") = true) (h1 : f1.type = E ∧ f1.offset = 1 ∧ (f1.name != "_") = true)
    (hc : P.cellsOf K = 2) (hcE : P.cellsOf E = 1) (hkt : P.keyType K = true) (hs : ∃ d, P.types.size + 1 = d + 1 + 1) (hlaw : Keyed P K) (hz : ∀ w, (zeroValue E).run P w = .ok (.int .i64 0) w) : MapT P T K E := by
  obtain ⟨d, hd⟩ := hs
  refine ⟨ht, he, hlaw, fun u v hu hv => ?_, fun key l h => ?_, hz⟩
  · unfold keyOf
    simp only [hk]
    rw [if_pos (by simp [hkt, Value.formed, hk, kv, hc]), hd]
    have e0 := (sA he d (.int .i64 u) _).2 ⟨u, rfl, IG hu, rfl⟩
    have e1 := (sA he d (.int .i64 v) _).2 ⟨v, rfl, IG hv, rfl⟩
    show ((P.keyLits (d + 1 + 1) K [.int .i64 u, .int .i64 v]).map fun ls => Lit.string (keyBytes ls)) = _
    rw [AW hk h0 h1 hc hcE, e0, e1]; rfl
  · unfold keyOf at h
    simp only [hk] at h
    split at h
    · rename_i hf
      rw [aQ] at hf
      have hf2 := hf.2
      cases key <;> simp [Value.formed, hk, hc] at hf2
      rename_i cs
      obtain ⟨cs⟩ := cs
      match cs, hf2 with
      | [a, b], _ =>
        rw [hd] at h
        have h' : ((P.keyLits (d + 1 + 1) K [a, b]).map fun ls => Lit.string (keyBytes ls)) = some l := h
        rw [AW hk h0 h1 hc hcE] at h'
        cases ha : P.keyLits (d + 1) E [a] with
        | none => rw [ha] at h'; cases h'
        | some x =>
          cases hb : P.keyLits (d + 1) E [b] with
          | none => rw [ha, hb] at h'; cases h'
          | some y =>
            obtain ⟨u, rfl, hu, _⟩ := (sA he d a x).1 ha
            obtain ⟨v, rfl, hv, _⟩ := (sA he d b y).1 hb
            exact ⟨u, v, P8 hu, P8 hv, rfl⟩
    · cases h
section
variable {P:Program} {T K E:TypeId}
theorem MapT.inj (h:MapT P T K E){u v u' v':Int}(a:Bx u)(b:Bx v)(a':Bx u')(b':Bx v')(e:kl u v=kl u' v'):u=u'∧v=v':=by
 have:=h.law.inj (h.kmk u v a b) (e ▸ h.kmk u' v' a' b')
 simpa [kv] using this
abbrev FM:=Int→Int→Option Int
def If (F:FM)(u v c:Int):FM:=fun u' v'=>if u'=u∧v'=v then some c else F u' v'
def TH (D:DataW Unit)(F:FM):Prop:=∀ u v,Bx u→Bx v→Maps.has D (kl u v)=(F u v).isSome∧∀ c,F u v=some c→∀ z,D.atKey (kl u v) z=.lit (.int .i64 c)
inductive MS where
 | no
 | mp (b n:Nat) (F:FM)
 | rg (b r:Nat) (F:FM) (left:Int→Int→Bool) (v7:Nat) (cur:Option (Int × Int × Int))
def MA (σ:Nat→Option Ow)(b:Nat):Prop:=∀ i o,σ i=some o→o.block≠some b
def CU (r:Nat):Value:=.pointer (some ⟨r,0,none⟩)
def MpOk (P:Program)(K E:TypeId)(σ:Nat→Option Ow)(base:Nat)(w:World):MS→Prop
 | .no=>True
 | .mp b n F=>base≤b∧MA σ b∧∃ D:DataW Unit,w.ownsMap P K (plainElem P E) b n D∧TH D F
 | .rg b r F left v7 cur=>base≤b∧base≤r∧MA σ b∧MA σ r∧∃ (n:Nat) (D:DataW Unit) (lf:Lit→Bool),w.ranges P K (plainElem P E) b r n D lf v7∧TH D F∧(∀ u v,Bx u→Bx v→lf (kl u v)=left u v) ∧
   ∀ u v c,cur=some (u,v,c)→(Instr.entry (CU r)).run P w=.ok (.tuple #[kv u v,.int .i64 c]) w
theorem Fl {σ σ':Nat→Option Ow}{w w':World}(hs:Stp σ w σ' w'){b:Nat}(hb:b<w.heap.size)(h:MA σ b):MA σ' b:=fun i o' ho hb'=>by
 rcases hs.new i o' b ho hb' with h1|⟨j,o,h1,h2⟩
 ·omega
 ·exact h j o h1 h2
theorem MC {w w' : World} {r b s c clock : Nat} {seen : Array Nat} {es : Array MapEntry} {v : Value} (hr : w.heap[r]? = some (.mapIter (some b) s seen c)) (hb : w.heap[b]? = some (.map es clock))
    (hr' : w'.heap[r]? = some (.mapIter (some b) s seen c)) (hb' : w'.heap[b]? = some (.map es clock)) (h : (Instr.entry (CU r)).run P w = .ok v w) : (Instr.entry (CU r)).run P w' = .ok v w' := by
  simp only [CU, Instr.entry, getObj, Sem.run_bind, Sem.run, hr, hb, hr', hb', Result.andThen] at h ⊢
  cases hs : seen.back? with
  | none => simp [hs, stuck, Sem.run] at h
  | some st =>
    simp only [hs, getObj, Sem.run_bind, Sem.run, hb, hb', Result.andThen] at h ⊢
    by_cases hc : clock = c
    · subst hc
      simp only [bne_self_eq_false, dV, if_false, if_true] at h ⊢
      cases hf : es.find? (fun x => x.born == st) with
      | none => simp [hf, unsupported, Sem.run, Result.andThen] at h
      | some x =>
        simp only [hf, Sem.run_pure, Sem.run, Result.ok.injEq, Result.andThen] at h ⊢
        simp_all
    · simp [hc, unsupported, Sem.run, Result.andThen] at h
theorem MpOk.stp {σ σ':Nat→Option Ow}{w w':World}{base:Nat}{g:MS}(h:MpOk P K E σ base w g)(hs:Stp σ w σ' w'):MpOk P K E σ' base w' g:=by
 cases g with
 | no=>trivial
 | mp b n F =>
  obtain ⟨h1,h2,D,h3,h4⟩:=h
  have hlt:=h3.lt
  have he:=hs.old b hlt h2
  refine ⟨h1,Fl hs hlt h2,D,?_,h4⟩
  obtain ⟨es,clock,hb,rest⟩:=h3
  exact ⟨es,clock,he.trans hb,rest⟩
 | rg b r F left v7 cur =>
  obtain ⟨h1,h2,h3,h4,n,D,lf,h5,h6,h7,h8⟩:=h
  have hlb:=h5.owns.lt
  have hlr:=h5.lt
  have eb:=hs.old b hlb h3
  have er:=hs.old r hlr h4
  obtain ⟨es,clock,since,seen,c0,hb,F',hn,hD,hr,rest⟩:=h5
  exact ⟨h1,h2,Fl hs hlb h3,Fl hs hlr h4,n,D,lf,⟨es,clock,since,seen,c0,eb.trans hb,F',hn,hD,er.trans hr,rest⟩,h6,h7,fun u v c hc=>MC hr hb (er.trans hr) (eb.trans hb) (h8 u v c hc)⟩
theorem MpOk.base {σ:Nat→Option Ow}{w:World}{base base':Nat}{g:MS}(h:MpOk P K E σ base w g)(hb:base'≤base):MpOk P K E σ base' w g:=by
 cases g with
 | no=>trivial
 | mp b n F=>exact ⟨cQ hb h.1,h.2⟩
 | rg b r F left v7 cur=>exact ⟨cQ hb h.1,cQ hb h.2.1,h.2.2⟩
theorem Rn {w:World}{b:Nat}{es:Array MapEntry}{clock:Nat}(hb:w.heap[b]?=some (.map es clock)):∀ ad:Addr,ad.block=b→w.cell? ad=none:=fun ad e=>by simp [World.cell?,e,hb]
theorem PF {w:World}{r:Nat}{m:Option Nat}{s c:Nat}{seen:Array Nat}(hr:w.heap[r]?=some (.mapIter m s seen c)):∀ ad:Addr,ad.block=r→w.cell? ad=none:=fun ad e=>by simp [World.cell?,e,hr]
theorem Rel.turned {M0:Nat→Prop}{H:AHeap}{σ:Nat→Option Ow}{w w':World}{row:Option Nat}(h:Rel M0 H σ w)(hg:w.grownBy w' row)(hr:∀ b,row=some b→MA σ b∧∀ ad:Addr,ad.block=b→w.cell? ad=none) :
  Rel M0 H σ w'∧Keeps (cF M0 H σ) σ H.al w (cF M0 H σ) σ H.al w':=by
 have hk:Keeps (cF M0 H σ) σ H.al w (cF M0 H σ) σ H.al w':=⟨fun ad u hm hu=>⟨hm,by
  have hne:some ad.block≠row:=fun e=>by rw [(hr _ e.symm).2 ad rfl] at hu;cases hu
  exact (World.cell?_of_block (hg.block ad.block (World.block_lt_of_cell? w ad hu) hne)).trans hu⟩,fun id o' _ h=>⟨o',h,.inl rfl⟩,fun _ h=>h⟩
 refine ⟨⟨h.top,h.nxt,fun id k hk'=>?_,h.inj,fun i o b' ho hb'=>⟨b8 (h.lt i o b' ho hb').1 hg.size,(h.lt i o b' ho hb').2⟩,fun b' hb'=>b8 (h.m0 b' hb') hg.size⟩,hk⟩
 obtain ⟨o,ho,l⟩:=h.lies id k hk'
 obtain ⟨xs,h1,h2,h3⟩:=l.row
 refine ⟨o,ho,l.ver,l.ty,l.sz,l.esz,xs,h1.kept hg ?_,h2,h3.keep hk⟩
 cases hb:o.val.ownBlock with
 | none=>exact .inl rfl
 | some b'=>exact .inr fun e=>(hr b' e.symm).1 id o ho hb
theorem Stp.turned {σ0 σ:Nat→Option Ow}{w0 w w':World}{row:Option Nat}(h:Stp σ0 w0 σ w)(hg:w.grownBy w' row)(hr:∀ b,row=some b→w0.heap.size≤b):Stp σ0 w0 σ w' :=
 ⟨hg.os.trans h.os,hg.tape.trans h.tape,hg.output.trans h.output,cQ h.size hg.size,fun b hb hn=>(hg.block b (b8 hb h.size) (fun e=>by have:=hr b e.symm;omega)).trans (h.old b hb hn),h.new⟩
structure SG (P:Program) (K E:TypeId) (n:Nat) (M0:Nat→Prop) (H0:AHeap) (σ0:Nat→Option Ow) (w0:World) (g:MS) (e:c7) (H:AHeap) (σ:Nat→Option Ow) (a:Act) (w:World):Prop where
 st:St n M0 H σ w e a
 stp:Stp σ0 w0 σ w
 keep:Keeps (cF M0 H0 σ0) σ0 H0.al w0 (cF M0 H σ) σ H.al w
 map:MpOk P K E σ w0.heap.size w g
section
variable {n:Nat} {M0:Nat→Prop} {H0 H:AHeap} {σ0 σ:Nat→Option Ow} {w0 w w':World} {g g':MS} {e:c7} {a:Act}
theorem SG.turned {row:Option Nat}(h:SG P K E n M0 H0 σ0 w0 g e H σ a w)(hg:w.grownBy w' row)(hr:∀ b,row=some b→w0.heap.size≤b∧MA σ b∧∀ ad:Addr,ad.block=b→w.cell? ad=none)
  (hM:MpOk P K E σ w0.heap.size w' g') {dst:Option Tmp} (hd:pG n dst=true) {v:Value} {d:D} (hv:RepV (cF M0 H σ) σ H.al w' v d):SG P K E n M0 H0 σ0 w0 g' (kY e dst d) H σ (a.put dst v) w':=by
 obtain ⟨h1,h2⟩:=h.st.rel.turned hg fun b hb=>(hr b hb).2
 exact ⟨h.st.put h1 h2 hd hv,h.stp.turned hg fun b hb=>(hr b hb).1,h.keep.trans h2,hM⟩
def Lv (P:Program)(K E:TypeId)(n:Nat)(M0:Nat→Prop)(H0:AHeap)(σ0:Nat→Option Ow)(w0:World)(X:MS→c7→AHeap→Prop)(a:Act)(w:World):Prop:=∃ g e H σ,X g e H∧SG P K E n M0 H0 σ0 w0 g e H σ a w
end
abbrev PG:=Exit→MS→c7→AHeap→Prop
def WpG (P:Program)(K E:TypeId)(n:Nat)(x:Code)(Q:PG)(g:MS)(e:c7)(H:AHeap):Prop :=
 ∀ M0 H0 σ0 w0 σ a w,SG P K E n M0 H0 σ0 w0 g e H σ a w→x.wp P (fun ex a w=>Lv P K E n M0 H0 σ0 w0 (Q ex) a w) a w
def GV (R:MS→c7→AHeap→Prop)(Q:PG):PG
 | .normal,g,e,H=>R g e H
 | ex,g,e,H=>Q ex g e H
def I9 (id:Nat)(Q:PG):PG
 | .exit id',g,e,H=>if id'=id then Q .normal g e H else Q (.exit id') g e H
 | ex,g,e,H=>Q ex g e H
variable {n:Nat} {c:Cfg} {Q:PG} {g:MS} {e:c7} {H:AHeap}
theorem fP {x:Code}(hm:P.follows .mixedOrders=true)(hok:nW c n x=true)(h:mZ P c x (fun ex e H=>Q ex g e H) e H):WpG P K E n x Q g e H :=
 fun M0 H0 σ0 w0 σ a w hS=>g9 (nF hm x _ e H h hok σ w a hS.st) fun ex a' w' ⟨e',H',σ',hq,hS',hst',hk'⟩=>⟨g,e',H',σ',hq,hS',hS.stp.trans hst',hS.keep.trans hk',hS.map.stp hst'⟩
theorem WpG.seq {x y:Code}(h:WpG P K E n x (GV (WpG P K E n y Q) Q) g e H):WpG P K E n (.seq x y) Q g e H:=fun M0 H0 σ0 w0 σ a w hS=>by
 refine wp_seq (g9 (h M0 H0 σ0 w0 σ a w hS) fun ex a' w' hc=>?_)
 cases ex<;>first|exact hc|skip
 obtain ⟨g',e',H',σ',hq,hS'⟩:=hc
 exact hq M0 H0 σ0 w0 σ' a' w' hS'
theorem c6 {x y:Code}(h:∀ R:MS→c7→AHeap→Prop,(∀ g e H,WpG P K E n y Q g e H→R g e H)→WpG P K E n x (GV R Q) g e H):WpG P K E n (.seq x y) Q g e H:=.seq (h _ fun _ _ _ h=>h)
@[go_sem] theorem RZ {R:MS→c7→AHeap→Prop}{g:MS}{e:c7}{H:AHeap}:GV R Q .normal g e H=R g e H:=rfl
@[go_sem] theorem Vc {R:MS→c7→AHeap→Prop}{g:MS}{e:c7}{H:AHeap}:GV R Q .ret g e H=Q .ret g e H:=rfl
@[go_sem] theorem TO {R:MS→c7→AHeap→Prop}{g:MS}{e:c7}{H:AHeap}{i:Nat}:GV R Q (.exit i) g e H=Q (.exit i) g e H:=rfl
@[go_sem] theorem U0 {i:Nat}{g:MS}{e:c7}{H:AHeap}:I9 i Q .ret g e H=Q .ret g e H:=rfl
@[go_sem] theorem RO {i:Nat}{g:MS}{e:c7}{H:AHeap}:I9 i Q .normal g e H=Q .normal g e H:=rfl
@[go_sem] theorem TA {i j:Nat}{g:MS}{e:c7}{H:AHeap}:I9 i Q (.exit j) g e H=if j=i then Q .normal g e H else Q (.exit j) g e H:=rfl
theorem WpG.cond {x:Operand}{y z:Code}{t:Bool}(hx:eK e x=.bool t)(h1:t=true→WpG P K E n y Q g e H)(h2:t=false→WpG P K E n z Q g e H):WpG P K E n (.cond x y z) Q g e H:=fun M0 H0 σ0 w0 σ a w hS=>by
 have hv:=hS.st.envR.ev x
 rw [hx] at hv
 have hc:a.eval x=.bool t:=by generalize a.eval x=v at hv;cases hv;rfl
 exact wp_cond_split hc (fun ht=>h1 ht M0 H0 σ0 w0 σ a w hS) fun ht=>h2 ht M0 H0 σ0 w0 σ a w hS
theorem WpG.block {id:Nat}{b:Code}(h:WpG P K E n b (I9 id Q) g e H):WpG P K E n (.block id b) Q g e H:=fun M0 H0 σ0 w0 σ a w hS=>by
 refine wp_block (g9 (h M0 H0 σ0 w0 σ a w hS) fun ex a' w' hc=>?_)
 cases ex<;>first|exact hc|skip
 rename_i id'
 obtain ⟨g',e',H',σ',hq,hS'⟩:=hc
 by_cases hid:id'=id
 ·subst hid
  show (if id'=id' then Lv P K E n M0 H0 σ0 w0 (Q .normal) a' w' else _)
  rw [if_pos rfl]
  refine ⟨g',e',H',σ',?_,hS'⟩
  have h':(if id'=id' then Q .normal g' e' H' else Q (.exit id') g' e' H'):=hq
  rw [if_pos rfl] at h';exact h'
 ·show (if id'=id then Lv P K E n M0 H0 σ0 w0 (Q .normal) a' w' else Lv P K E n M0 H0 σ0 w0 (Q (.exit id')) a' w')
  rw [if_neg hid]
  refine ⟨g',e',H',σ',?_,hS'⟩
  have h':(if id'=id then Q .normal g' e' H' else Q (.exit id') g' e' H'):=hq
  rw [if_neg hid] at h';exact h'
theorem WpG.loop {b:Code}{ι:Type}(I:ι→MS→c7→AHeap→Prop)(m:ι→Nat)(x0:ι)(h0:I x0 g e H)(hI:∀ x g e H,I x g e H→WpG P K E n b (GV (fun g' e' H'=>∃ x',m x'<m x∧I x' g' e' H') Q) g e H):WpG P K E n (.loop b) Q g e H :=
 fun M0 H0 σ0 w0 σ a w hS=>by
 let J:Nat→Act→World→Prop:=fun k a' w'=>∃ g e H σ x,m x=k∧I x g e H∧SG P K E n M0 H0 σ0 w0 g e H σ a' w'
 have hJ0:J (m x0) a w:=⟨g,e,H,σ,x0,rfl,h0,hS⟩
 classical
 let μ:Act→World→Nat:=fun a' w'=>if hx:∃ k,J k a' w' then Classical.choose (fE hx) else 0
 refine wp_loop (fun a' w'=>∃ k,J k a' w') μ ⟨_,hJ0⟩ fun a' w' hx=>?_
 have hμ:μ a' w'=Classical.choose (fE hx):=by simp only [μ,dif_pos hx]
 obtain ⟨g1,e1,H1,σ1,x1,hx1,hi,hS1⟩:=(wC (fE hx)).1
 refine g9 (hI x1 g1 e1 H1 hi M0 H0 σ0 w0 σ1 a' w' hS1) fun ex a'' w'' hc=>?_
 cases ex<;>first|exact hc|skip
 obtain ⟨g2,e2,H2,σ2,⟨x2,hlt,hi2⟩,hS2⟩:=hc
 have hx2:∃ k,J k a'' w'':=⟨m x2,g2,e2,H2,σ2,x2,rfl,hi2,hS2⟩
 refine ⟨hx2,?_⟩
 have:μ a'' w''=Classical.choose (fE hx2):=by simp only [μ,dif_pos hx2]
 rw [this,hμ]
 refine Nat.lt_of_le_of_lt ?_ (hx1 ▸ hlt)
 rcases bQ (m x2) (Classical.choose (fE hx2)) with hlt'|hge
 ·exact absurd ⟨g2,e2,H2,σ2,x2,rfl,hi2,hS2⟩ ((wC (fE hx2)).2 _ hlt')
 ·exact hge
theorem WpG.ret (h:Q .ret g e H):WpG P K E n .ret Q g e H:=fun M0 H0 σ0 w0 σ a w hS=>wp_ret ⟨g,e,H,σ,h,hS⟩
theorem WpG.skip (h:Q .normal g e H):WpG P K E n .skip Q g e H:=fun M0 H0 σ0 w0 σ a w hS=>wp_skip ⟨g,e,H,σ,h,hS⟩
theorem WpG.exit {id:Nat}(h:Q (.exit id) g e H):WpG P K E n (.exit id) Q g e H:=fun M0 H0 σ0 w0 σ a w hS=>wp_exit ⟨g,e,H,σ,h,hS⟩
/-! ### operations -/
def OpsG (P:Program)(K E:TypeId)(n:Nat)(ops:Array Oper)(l:List Oper)(X:MS→c7→AHeap→Prop)(g:MS)(e:c7)(H:AHeap):Prop :=
 ∀ M0 H0 σ0 w0 σ a w (Q:Exit→Act→World→Prop),SG P K E n M0 H0 σ0 w0 g e H σ a w→(∀ a' w',Lv P K E n M0 H0 σ0 w0 X a' w'→Q .normal a' w')→wpList P ops Q l a w
theorem WpG.region {id:Nat}{ops:Array Oper}(h:OpsG P K E n ops ops.toList (Q .normal) g e H):WpG P K E n (.region id ops false) Q g e H:=fun M0 H0 σ0 w0 σ a w hS=>wp_region_list (h M0 H0 σ0 w0 σ a w _ hS fun _ _ hc=>hc)
variable {ops:Array Oper} {l:List Oper} {o:Oper} {X:MS→c7→AHeap→Prop}
theorem OpsG.nil (h:X g e H):OpsG P K E n ops [] X g e H:=fun M0 H0 σ0 w0 σ a w Q hS hQ=>wpList_nil (hQ a w ⟨g,e,H,σ,h,hS⟩)
theorem OpsG.pre {md:Nat→Bool}:∀ (l1:List Oper) {l2:List Oper} {e:c7} {H:AHeap},(∀ o∈l1,pG n o.dst=true)→lQ P md ops l1 e H (fun e' H'=>OpsG P K E n ops l2 X g e' H')→OpsG P K E n ops (l1++l2) X g e H
 | [],l2,e,H,hd,h=>h
 | o :: l1,l2,e,H,hd,h=>fun M0 H0 σ0 w0 σ a w Q hS hQ=>by
  unfold lQ at h
  have hs:=xX (Q:=Q) h hS.st (fun hn=>iX _ (hS.st.rel.nxt _ hn)) (hd o (by simp))
  have:=StepC.mono (K':=wpList P ops Q (l1++l2)) (fun a' w' ⟨v,H',F,σ',hk,hS',hst,hkp⟩ =>
   OpsG.pre l1 (fun o' ho'=>hd o' (by simp [ho'])) hk M0 H0 σ0 w0 σ' a' w' Q ⟨hS',hS.stp.trans hst,hS.keep.trans hkp,hS.map.stp hst⟩ hQ) hs
  unfold StepC at this
  show wpList P ops Q (o :: (l1++l2)) a w
  unfold wpList
  exact this
theorem OpsG.take {md:Nat→Bool}(k:Nat)(hd:((l.take k).all fun o=>pG n o.dst)=true)(h:∀ R:c7→AHeap→Prop,(∀ e' H',OpsG P K E n ops (l.drop k) X g e' H'→R e' H')→lQ P md ops (l.take k) e H R):OpsG P K E n ops l X g e H:=by
 have:=OpsG.pre (g:=g) (X:=X) (P:=P) (K:=K) (E:=E) (n:=n) (ops:=ops) (md:=md) (l.take k) (l2:=l.drop k) (fun o ho=>(dJ.1 hd) o ho) (h _ fun _ _ h=>h)
 rwa [List.take_append_drop] at this
theorem OpsG.all {md:Nat→Bool}(hd:(l.all fun o=>pG n o.dst)=true)(h:∀ R:c7→AHeap→Prop,(∀ e' H',X g e' H'→R e' H')→lQ P md ops l e H R):OpsG P K E n ops l X g e H:=by
 have:=OpsG.pre (g:=g) (X:=X) (P:=P) (K:=K) (E:=E) (n:=n) (ops:=ops) (md:=md) l (l2:=[]) (fun o ho=>(dJ.1 hd) o ho) (h _ fun _ _ h=>OpsG.nil h)
 rwa [gJ] at this
theorem Fr {M0:Nat→Prop}{σ:Nat→Option Ow}{w:World}{a:Act}(hS:St n M0 H σ w e a){m:Operand}{v:Value}(hm:eK e m=.cst v):a.eval m=v:=by
 have h:=hS.envR.ev m
 rw [hm] at h
 generalize a.eval m=x at h
 cases h;rfl
theorem NP {M0:Nat→Prop}{σ:Nat→Option Ow}{w:World}{a:Act}(hS:St n M0 H σ w e a){x:Operand}{u v:Int}(hx:eK e x=.agg [.int .i64 u,.int .i64 v]):a.eval x=kv u v:=by
 have h:=hS.envR.ev x
 rw [hx] at h
 generalize a.eval x=y at h
 cases h
 rename_i vs hl h1 hr
 match vs,hl with
 | [p,q],_ =>
  have a0:=hr 0 p _ rfl rfl
  have a1:=hr 1 q _ rfl rfl
  cases a0;cases a1;rfl
theorem UJ {M0:Nat→Prop}{σ:Nat→Option Ow}{w:World}{a:Act}(hS:St n M0 H σ w e a){x:Operand}{k:IntKind}{u:Int}(hx:eK e x=.int k u):a.eval x=.int k u:=by
 have h:=hS.envR.ev x
 rw [hx] at h
 generalize a.eval x=y at h
 cases h;rfl
theorem JX {M:Nat→Prop}{σ:Nat→Option Ow}{N:Nat→Prop}{w:World}(u v:Int):RepV M σ N w (kv u v) (.agg [.int .i64 u,.int .i64 v]) :=
 .agg [.int .i64 u,.int .i64 v] _ rfl (by simp [Value.oneCell']) fun j x d hx hd=>by
  match j with
  | 0=>simp at hx hd;subst hx;subst hd;exact .int _ _
  | 1=>simp at hx hd;subst hx;subst hd;exact .int _ _
  | j+2=>simp at hx
theorem DA {M:Nat→Prop}{σ:Nat→Option Ow}{N:Nat→Prop}{w:World}{vs:List Value}{ds:List D}(hl:vs.length=ds.length)(hr:∀ (j:Nat) (u:Value) (d:D),vs[j]?=some u→ds[j]?=some d→RepV M σ N w u d):RepV M σ N w (.tuple vs.toArray) (.tup ds):=.tup _ _ hl hr
theorem OpsG.make (hT:MapT P T K E){t:TypeId}(hop:o.op=.makeMap t none)(hg:o.guard=none)(hd:pG n o.dst=true)(h:∀ b,OpsG P K E n ops l X (.mp b 0 fun _ _=>none) (kY e o.dst (.cst (.map (some b)))) H):OpsG P K E n ops (o :: l) X .no e H :=
 fun M0 H0 σ0 w0 σ a w Q hS hQ=>by
 refine wpList_plain hg fun K' hK'=>?_
 unfold Oper.wp
 simp only [execOp,hop,RowKit.run_makeMap,Option.map_none,Sem.run_bind,Sem.run_pure,Result.andThen_ok,Result.andThen,Oper.upon_value]
 refine hK' _ _ (h w.heap.size M0 H0 σ0 w0 σ _ _ Q (hS.turned (g':=.mp w.heap.size 0 fun _ _=>none) (World.grownBy_alloc w _ none) (by simp) ⟨hS.stp.size,fun i o ho hb=>?_,_,World.ownsMap_made w P K _,fun u v _ _=>⟨rfl,by simp⟩⟩ hd (.cst _)) hQ)
 have:=(hS.st.rel.lt i o _ ho hb).1
 omega
theorem OpsG.look (hT : MapT P T K E) {t : TypeId} (ht : t = T) {m x : Operand} (hop : o.op = .lookup t m x true) (hg : o.guard = none) (hd : pG n o.dst = true) {b k : Nat} {F : FM} (hm : eK e m = .cst (.map (some b))) {u v : Int} (hx : eK e x = .agg [.int .i64 u, .int .i64 v]) (hu : Bx u) (hv : Bx v)
    (h : OpsG P K E n ops l X (.mp b k F) (kY e o.dst (.tup [.int .i64 ((F u v).getD 0), .bool (F u v).isSome])) H) : OpsG P K E n ops (o :: l) X (.mp b k F) e H :=
  fun M0 H0 σ0 w0 σ a w Q hS hQ => by
  subst ht
  obtain ⟨m1, m2, D, m3, m4⟩ := hS.map
  obtain ⟨r1, r2⟩ := m4 u v hu hv
  refine wpList_lookup_own_ok w hg m x t hop K E hT.law hT.t _ (hT.z w) (.lit (.int .i64 0)) [] (plainElem_int hT.e (IG ⟨by omega, by omega⟩)) b k D (Fr hS.st hm) m3 (kv u v) (kl u v) (NP hS.st hx) (hT.kmk u v hu hv) fun y ps hy => ?_
  obtain ⟨c, rfl, hc, _⟩ := plainElem_int_inv hT.e hy
  have hcv : c = (F u v).getD 0 := by
    simp only [Prod.mk.injEq] at hc
    cases hF : F u v with
    | none =>
      rw [hF] at r1
      have := Maps.atKey_of_not_has r1 (.lit (.int .i64 0))
      rw [this] at hc
      have := hc.1; simp at this; simp [this]
    | some c' =>
      have := r2 c' hF (.lit (.int .i64 0))
      rw [this] at hc
      have := hc.1; simp at this; simp [this]
  subst hcv
  rw [r1]
  refine h M0 H0 σ0 w0 σ _ _ Q (hS.turned (row := none) ⟨rfl, rfl, rfl, aL _, fun _ _ _ => rfl⟩ (by simp) hS.map hd (DA (vs := [_, _]) rfl fun j y d hy hd => ?_)) hQ
  match j with
  | 0 => simp at hy hd; subst hy; subst hd; exact .int _ _
  | 1 => simp at hy hd; subst hy; subst hd; exact .bool _
  | j + 2 => simp at hy
theorem OpsG.store (hT:MapT P T K E){t:TypeId}(ht:t=T){m x y:Operand}(hop:o.op=.mapUpdate t m x y)(hg:o.guard=none)(hd:pG n o.dst=true){b k:Nat}{F:FM}(hm:eK e m=.cst (.map (some b))){u v c:Int}(hx:eK e x=.agg [.int .i64 u,.int .i64 v])(hy:eK e y=.int .i64 c)(hu:Bx u)(hv:Bx v)(hc:Bx c)(hk:k<1000000)
  (h:OpsG P K E n ops l X (.mp b (k+1) (If F u v c)) (kY e o.dst .junk) H):OpsG P K E n ops (o :: l) X (.mp b k F) e H :=
 fun M0 H0 σ0 w0 σ a w Q hS hQ=>by
 subst ht
 obtain ⟨m1,m2,D,m3,m4⟩:=hS.map
 have hcm:∀ ad:Addr,ad.block=b→w.cell? ad=none:=by obtain ⟨es,clock,hb,_⟩:=m3;exact Rn hb
 refine wpList_mapUpdate_own w hg m x y t hop K E hT.law hT.t _ b k D (Fr hS.st hm) m3 (by simp only [maxLen];omega) (kv u v) (.int .i64 c) (kl u v) (NP hS.st hx) (UJ hS.st hy) (hT.kmk u v hu hv) (.lit (.int .i64 c)) [] (plainElem_int hT.e (IG hc)) fun w' hw1 hw2=>?_
 refine h M0 H0 σ0 w0 σ _ _ Q (hS.turned (g':=.mp b (k+1) (If F u v c)) hw2 (fun b' hb'=>by cases hb';exact ⟨m1,m2,hcm⟩) ⟨m1,m2,_,hw1,fun u' v' hu' hv'=>?_⟩ hd (.junk _)) hQ
 unfold If
 by_cases he:u'=u∧v'=v
 ·obtain ⟨rfl,rfl⟩:=he
  rw [if_pos ⟨rfl,rfl⟩]
  have hkl:=hT.law.key (hT.kmk u' v' hu' hv')
  exact ⟨Maps.has_put_same m3.isMap hkl _,fun c' hc' z=>by cases hc';exact Maps.atKey_put_same m3.isMap hkl _ _⟩
 ·rw [if_neg he]
  have hne:kl u' v'≠kl u v:=fun e'=>he (hT.inj hu' hv' hu hv e')
  obtain ⟨r1,r2⟩:=m4 u' v' hu' hv'
  exact ⟨(Maps.has_put_other hne _).trans r1,fun c' hc' z=>(Maps.atKey_put_other hne _ _).trans (r2 c' hc' z)⟩
theorem OpsG.range (hT:MapT P T K E){t:TypeId}(ht:t=T){m:Operand}(hop:o.op=.range t m)(hg:o.guard=none)(hd:pG n o.dst=true){b k:Nat}{F:FM}(hm:eK e m=.cst (.map (some b)))
  (h:∀ r v7,OpsG P K E n ops l X (.rg b r F (fun u v=>(F u v).isSome) v7 none) (kY e o.dst (.cst (CU r))) H):OpsG P K E n ops (o :: l) X (.mp b k F) e H :=
 fun M0 H0 σ0 w0 σ a w Q hS hQ=>by
 subst ht
 obtain ⟨m1,m2,D,m3,m4⟩:=hS.map
 refine wpList_range_own w hg m t hop K E hT.law hT.t _ b k D (Fr hS.st hm) m3 fun w' hw1 hw2 hw3=>?_
 refine h w.heap.size (Maps.size D) M0 H0 σ0 w0 σ _ _ Q (hS.turned (g':=.rg b w.heap.size F (fun u v=>(F u v).isSome) (Maps.size D) none) hw2 (by simp) ⟨m1,hS.stp.size,m2,fun i o ho hb=>?_,k,D,_,hw1,m4,fun u v hu hv=>(m4 u v hu hv).1,by simp⟩ hd (.cst _)) hQ
 have:=(hS.st.rel.lt i o _ ho hb).1
 omega
theorem OpsG.next (hT:MapT P T K E){it:Operand}(hop:o.op=.next it false)(hg:o.guard=none)(hd:pG n o.dst=true){b r v7:Nat}{F:FM}{left:Int→Int→Bool}{cur:Option (Int × Int × Int)}(hit:eK e it=.cst (CU r))
  (h1:(∀ u v,Bx u→Bx v→left u v=false)→OpsG P K E n ops l X (.rg b r F left v7 cur) (kY e o.dst (.tup [.bool false])) H)
  (h2:∀ u v c cnt',Bx u→Bx v→left u v=true→F u v=some c→cnt'<v7→OpsG P K E n ops l X (.rg b r F (fun u' v'=>left u' v'&&!decide (u'=u∧v'=v)) cnt' (some (u,v,c))) (kY e o.dst (.tup [.bool true,.agg [.int .i64 u,.int .i64 v],.int .i64 c])) H) :
  OpsG P K E n ops (o :: l) X (.rg b r F left v7 cur) e H :=
 fun M0 H0 σ0 w0 σ a w Q hS hQ=>by
 obtain ⟨m1,m2,m3,m4,k,D,lf,m5,m6,m7,m8⟩:=hS.map
 have hcm:∀ ad:Addr,ad.block=r→w.cell? ad=none:=by obtain ⟨es,clock,since,seen,c0,hb,F',hn,hD,hr,_⟩:=m5;exact PF hr
 refine wpList_next_ranges w hg it hop K hT.law (plainElem P E) (fun p:Int × Int=>kv p.1 p.2) (Value.int .i64) (fun key l hkey=>?_) (fun v y hv=>?_) b r k D lf v7 (Fr hS.st hit) m5 (fun hc hl=>?_) fun x c l' y w' cnt' hkey hlk hv hat hrg hlt hgr hsz hen=>?_
 ·obtain ⟨u,v,_,_,rfl⟩:=hT.inv key l hkey
  exact ⟨(u,v),rfl⟩
 ·obtain ⟨c,rfl,_⟩:=plainElem_int_inv hT.e hv;exact ⟨c,rfl⟩
 ·refine h1 (fun u v hu hv=>by rw [← m7 u v hu hv];exact hl _) M0 H0 σ0 w0 σ _ _ Q (hS.turned (row:=none) ⟨rfl,rfl,rfl,aL _,fun _ _ _=>rfl⟩ (by simp) hS.map hd (DA (vs:=[_]) rfl fun j y d hy hd=>?_)) hQ
  match j with
  | 0=>simp at hy hd;subst hy;subst hd;exact .bool _
  | j+1=>simp at hy
 ·obtain ⟨u,v⟩:=x
  simp only at hkey hen
  obtain ⟨u',v',hu,hv',he⟩:=hT.inv _ _ hkey
  simp only [kv,Value.agg.injEq,Array.mk.injEq,List.cons.injEq,Value.int.injEq,true_and,and_true] at he
  obtain ⟨rfl,rfl⟩:=he
  rw [hT.kmk u v hu hv'] at hkey
  cases hkey
  obtain ⟨c',ec,rfl,hwc⟩:=plainElem_int_inv hT.e hv
  cases ec
  have hhas:=Maps.has_true_of_atKey hat
  obtain ⟨r1,r2⟩:=m6 u v hu hv'
  rw [hhas] at r1
  obtain ⟨c2,hc2⟩:=jR.1 r1.symm
  have hcc:c2=c:=by
   have e1:=r2 c2 hc2 .nil
   rw [hat .nil] at e1
   simp at e1;exact e1.symm
  subst hcc
  refine h2 u v c2 cnt' hu hv' (by rw [← m7 u v hu hv'];exact hlk) hc2 hlt M0 H0 σ0 w0 σ _ _ Q (hS.turned (g':=.rg b r F (fun u' v'=>left u' v'&&!decide (u'=u∧v'=v)) cnt' (some (u,v,c2))) hgr (fun b' hb'=>by cases hb';exact ⟨m2,m4,hcm⟩) ⟨m1,m2,m3,m4,k,D,_,hrg,m6,fun a1 a2 ha1 ha2=>?_,fun a1 a2 a3 ha=>?_⟩ hd (DA (vs:=[_,_,_]) rfl fun j y d hy hd=>?_)) hQ
  ·rw [m7 a1 a2 ha1 ha2]
   congr 2
   rw [bF]
   constructor
   ·intro h;exact decide_eq_true (hT.inj ha1 ha2 hu hv' (WideAt.sameKey_eq h))
   ·intro h
    obtain ⟨rfl,rfl⟩:=of_decide_eq_true h
    exact WideAt.sameKey_self (hT.law.key (hT.kmk _ _ hu hv'))
  ·cases ha;exact hen
  ·match j with
   | 0=>simp at hy hd;subst hy;subst hd;exact .bool _
   | 1=>simp at hy hd;subst hy;subst hd;exact JX _ _
   | 2=>simp at hy hd;subst hy;subst hd;exact .int _ _
   | j+3=>simp at hy
theorem OpsG.entry {it:Operand}(hop:o.op=.entry it)(hg:o.guard=none)(hd:pG n o.dst=true){b r v7:Nat}{F:FM}{left:Int→Int→Bool}{u v c:Int}(hit:eK e it=.cst (CU r))
  (h:OpsG P K E n ops l X (.rg b r F left v7 (some (u,v,c))) (kY e o.dst (.tup [.agg [.int .i64 u,.int .i64 v],.int .i64 c])) H):OpsG P K E n ops (o :: l) X (.rg b r F left v7 (some (u,v,c))) e H :=
 fun M0 H0 σ0 w0 σ a w Q hS hQ=>by
 obtain ⟨m1,m2,m3,m4,k,D,lf,m5,m6,m7,m8⟩:=hS.map
 have hrun:=m8 u v c rfl
 refine wpList_plain hg fun K' hK'=>?_
 unfold Oper.wp
 have hit':=Fr hS.st hit
 simp only [execOp,hop,hit',hrun,Sem.run_bind,Sem.run_pure,Result.andThen_ok,Result.andThen,Oper.upon_value]
 refine hK' _ _ (h M0 H0 σ0 w0 σ _ _ Q (hS.turned (row:=none) ⟨rfl,rfl,rfl,aL _,fun _ _ _=>rfl⟩ (by simp) hS.map hd (DA (vs:=[_,_]) rfl fun j y d hy hd=>?_)) hQ)
 match j with
 | 0=>simp at hy hd;subst hy;subst hd;exact JX _ _
 | 1=>simp at hy hd;subst hy;subst hd;exact .int _ _
 | j+2=>simp at hy
/-! ### calls -/
def GCalls (P:Program)(K E:TypeId)(f:FuncId)(args:List D)(H:AHeap)(Q:D→AHeap→MS→Prop):Prop :=
 RQ P f∧∀ (M0:Nat→Prop) (σ:Nat→Option Ow) (w:World) (vals:List Value),Rel M0 H σ w→RepL (cF M0 H σ) σ H.al w vals args →
  Calls P f vals.toArray w fun e w'=>∃ v d H' σ' g,e=.returned v∧Rel M0 H' σ' w'∧RepV (cF M0 H' σ') σ' H'.al w' v d∧Stp σ w σ' w'∧Keeps (cF M0 H σ) σ H.al w (cF M0 H' σ') σ' H'.al w'∧MpOk P K E σ' w.heap.size w' g∧Q d H' g
theorem GQ {f:FuncId}{args:List D}{Q:D→AHeap→MS→Prop}{Q':D→AHeap→Prop}(h:GCalls P K E f args H Q)(hq:∀ d H' g,Q d H' g→Q' d H'):ACalls P f args H Q' :=
 ⟨h.1,fun M0 σ w vals hR ha=>(h.2 M0 σ w vals hR ha).mono fun e w' ⟨v,d,H',σ',g,a,b,c,s,k,_,q⟩=>⟨v,d,H',σ',a,b,c,s,k,hq _ _ _ q⟩⟩
def OK (P:Program)(rs:List ResultVar)(Q:D→AHeap→MS→Prop):PG:=fun ex g e H=>OJ P rs (fun d H'=>Q d H' g) ex e H
theorem xI {f:FuncId}{fn:Func}{x:Code}{rs:List ResultVar}{args:List D}{Q:D→AHeap→MS→Prop}(hf:P.funcs[f]?=some fn)(hb:fn.body=some x)
  (hnm:(fn.name=="runtime.NumGoroutine")=false) (hlen:args.length≤fn.ntmps) (h:WpG P K E fn.ntmps x (OK P rs Q) .no (A7 args) H) (hr:fn.results.toList=rs:=by exact Sd):GCalls P K E f args H Q:=by
 subst hr
 refine ⟨⟨fn,hf,hnm,by simp [hb]⟩,fun M0 σ w vals hR ha=>calls_of_wp hf hb ?_⟩
 have hS:=S8 hR ha hlen
 refine g9 (h M0 H σ w σ _ w ⟨hS,.refl _ _,.refl _ _ _ _,trivial⟩) fun ex a' w' hc=>?_
 obtain ⟨g,e',H',σ',hq,hS',hst,hk,hM⟩:=hc
 have fin:Bt P fn.results.toList e' H' (fun l=>Q (D0 l) H' g)→a'.defers=[]∧∃ v,(results fn a'.tmps).run P w'=.ok v w' ∧
   ∃ v2 d H2 σ2 g2,Ending.returned v=.returned v2∧Rel M0 H2 σ2 w'∧RepV (cF M0 H2 σ2) σ2 H2.al w' v2 d∧Stp σ w σ2 w'∧Keeps (cF M0 H σ) σ H.al w (cF M0 H2 σ2) σ2 H2.al w'∧MpOk P K E σ2 w.heap.size w' g2∧Q d H2 g2:=by
  intro hq
  obtain ⟨vs,l,h1,h2,h3⟩:=vA hS' _ _ hq
  obtain ⟨v,hv1,hv2⟩:=CM (fn:=fn) h1 h2
  exact ⟨hS'.defers,v,hv1,v,_,H',σ',g,rfl,hS'.rel,hv2,hst,hk,hM,h3⟩
 cases ex<;>first|exact fin hq|exact hq.elim
theorem OpsG.call {f:FuncId}{args:List D}{Q:D→AHeap→MS→Prop}(hc:f7 e o=some (f,args))(hg:o.guard=none)(hd:pG n o.dst=true)(hA:GCalls P K E f args H Q)(h:∀ d H' g',Q d H' g'→OpsG P K E n ops l X g' (kY e o.dst d) H') :
  OpsG P K E n ops (o :: l) X .no e H:=fun M0 H0 σ0 w0 σ a w Q' hS hQ=>by
 refine wpList_plain hg fun K' hK'=>?_
 obtain ⟨vals,hrun,hrep⟩:=Aj (P:=P) (fun x _=>hS.st.envR.ev x) hc hA.1
 refine zO (args:=args) hrun ((hA.2 M0 σ w vals hS.st.rel hrep).mono fun e' w' ⟨v,d,H',σ',g',he,hR',hv,hst,hk,hM,hq⟩=>?_)
 exact ⟨v,he,hK' _ _ (h d H' g' hq M0 H0 σ0 w0 σ' _ _ Q' ⟨hS.st.put hR' hk hd hv,hS.stp.trans hst,hS.keep.trans hk,hM.base hS.stp.size⟩ hQ)⟩
end
end Go.Abs
end
section
set_option maxRecDepth 100000
set_option maxHeartbeats 4000000
open Go Go.Proofs
namespace Go.Abs
@[go_sem] theorem Wr (H:AHeap)(a b c d:Nat):iE H (.ptr a b c d)=.ptr a b c d:=rfl
@[go_sem] theorem T3 (a b c d:Nat):dC (.ptr a b c d)=[]:=rfl
@[go_sem] theorem WS (H:AHeap)(i:Nat):(H.frz i).next=H.next:=(My H i).2
@[go_sem] theorem Yq (H:AHeap)(i j:Nat):(H.frz i).get j=if j=i then (H.get i).map (fun k=>{ k with fz:=true }) else H.get j:=by
 by_cases h:j=i
 ·subst h
  unfold AHeap.frz
  cases hk:H.get j<;>simp [AHeap.put,hk]
 ·rw [if_neg h,Hw H i j h]
@[go_sem] theorem Lb {n:Nat}{c:List D}(h:D.clL c=true):D.clLL (List.replicate n c)=true:=by
 induction n with
 | zero=>rfl
 | succ n ih=>simp [nH,D.clLL,h,ih]
theorem QE (l:List Part):dX (l.map Part.c)=l.map Part.c:=lK fun c hc=>by
 rw [aS] at hc;obtain ⟨x,_,rfl⟩:=hc
 simp [Part.c,fW,jY,dLI,jC]
def dD (x:Term)(vs:List Int):Int:=if x.var<0 then x.add else vs[x.var.toNat]?.getD 0+x.add
def Sm (vs:List Int):Prop:=∀ v∈vs,-4000000≤v∧v≤4000000
theorem Sm.get {vs:List Int}(h:Sm vs){k:Nat}(hk:k<vs.length) : -4000000≤vs[k]∧vs[k]≤4000000:=h _ (aC hk)
def rL (x:Term)(n:Nat):Prop:=(-1≤x.var∧x.var<n)∧(-1000000≤x.add∧x.add≤1000000)
def LI (x:Test)(vs:List Int):Bool:=(decide (x.kind=1)&&decide (dD x.left vs≤dD x.right vs))||(decide (x.kind=2)&&decide (dD x.left vs=dD x.right vs))
def M8 (x:Test)(n:Nat):Prop:=(x.kind=1∨x.kind=2)∧rL x.left n∧rL x.right n
def oF (h:Host)(m:Part)(s:Slot):Int:=(h.values[(m.nodes[s.node.toNat]?.getD 0).toNat]?.getD [])[s.attr.toNat]?.getD 0
def q9 (st:List Int × List Bool)(s:Slot):Bool:=decide (0≤s.term.var)&&!(st.2[s.term.var.toNat]?.getD false)
def o8 (h:Host)(m:Part)(st:List Int × List Bool)(s:Slot):List Int × List Bool :=
 if q9 st s=true then (st.1.set s.term.var.toNat (oF h m s - s.term.add),st.2.set s.term.var.toNat true) else st
def i7 (h:Host)(m:Part):List Int × List Bool→List Slot→Option (List Int × List Bool)
 | st,[]=>some st
 | st,s :: l=>if dD s.term (o8 h m st s).1=oF h m s then i7 h m (o8 h m st s) l else none
theorem wJ (h:Host)(m:Part)(s:Slot):∀ (l:List Slot) (st:List Int × List Bool),i7 h m st (l++[s])=(i7 h m st l).bind fun q=>if dD s.term (o8 h m q s).1=oF h m s then some (o8 h m q s) else none
 | [],st=>by simp [i7]
 | a :: l,st=>by
  simp only [eY,i7]
  split
  ·exact wJ h m s l _
  ·rfl
theorem CG (h:Host)(m:Part):∀ (l r:List Slot) (st:List Int × List Bool),i7 h m st l=none→i7 h m st (l++r)=none
 | [],r,st,hn=>by simp [i7] at hn
 | a :: l,r,st,hn=>by
  simp only [eY,i7] at hn ⊢
  split at hn
  ·rename_i he;rw [if_pos he];exact CG h m l r _ hn
  ·rename_i he;rw [if_neg he]
theorem CF {h:Host}{m:Part}{l:List Slot}{i:Nat}(hi:i<l.length){st q:List Int × List Bool}(hq:i7 h m st (l.take i)=some q) :
  (dD l[i].term (o8 h m q l[i]).1=oF h m l[i]→i7 h m st (l.take (i+1))=some (o8 h m q l[i]))∧(dD l[i].term (o8 h m q l[i]).1≠oF h m l[i]→i7 h m st l=none):=by
 have e:l.take (i+1)=l.take i++[l[i]]:=aG hi
 refine ⟨fun h1=>?_,fun h1=>?_⟩
 ·rw [e,wJ,hq];simp [h1]
 ·have hn:i7 h m st (l.take (i+1))=none:=by rw [e,wJ,hq];simp [h1]
  have:=CG h m _ (l.drop (i+1)) st hn
  rw [List.take_append_drop] at this;exact this
def gH (p:Pattern)(h:Host)(m:Part)(vs:List Int):List Int × Int :=
 match i7 h m (vs++List.replicate (p.vars.toNat - vs.length) 0,List.replicate vs.length true++List.replicate (p.vars.toNat - vs.length) false) p.slots with
 | none=>([],11)
 | some q=>if p.tests.all (fun x=>LI x q.1)=true then (q.1,0) else ([],16)
structure SmallA (x:Attr):Prop where
 lo : -1000000≤x.low
 hi:x.high≤1000000
 le:x.low≤x.high
theorem Ds {x:Attr}{b:List Attr}(h:cZ x b=0):SmallA x:=by
 unfold cZ at h
 split at h<;>try (cases h;done)
 split at h<;>try (cases h;done)
 split at h
 ·exact absurd h (by assumption)
 ·rename_i h3
  split at h
  ·rename_i h4
   split at h
   ·rename_i h5
    have hl:x.names.length≤20:=by
     refine bJ fun hc=>h3 ?_
     unfold wX;rw [if_pos (by omega)];decide
    simp at h5
    exact ⟨by omega,by omega,by omega⟩
   ·cases h
  ·split at h
   ·rename_i h5
    simp at h5
    exact ⟨by omega,by omega,by omega⟩
   ·cases h
theorem Kk {t:Types}{a:Nat}(ha:a<t.nodes.length)(h:iT t a=0):∀ k,(t.attrs a).length - t.nodes[a].attrs.length≤k→∀ hk:k<(t.attrs a).length,SmallA (t.attrs a)[k]:=by
 rw [EO t a ha] at h
 split at h<;>try (cases h;done)
 split at h<;>try (cases h;done)
 split at h<;>try (cases h;done)
 split at h<;>try (cases h;done)
 split at h<;>try (cases h;done)
 intro k h1 hk
 have:=eJ _ _ h k h1 (by omega)
 unfold TE at this
 rw [aA hk] at this
 exact Ds this
theorem Li {t:Types}(hv:(cJ t).2=0):∀ a:Nat,a<t.nodes.length→∀ x∈t.attrs a,SmallA x:=by
 have hval:=mJ hv
 have hN:∀ j,j<t.nodes.length→iT t j=0:=by
  have h:=hv
  unfold cJ at h
  split at h
  ·simp at h
  ·split at h
   ·simp at h
   ·obtain ⟨hN,_⟩:=p8 _ _ h
    exact fun j hj=>hN j (by omega) (by omega)
 intro a
 induction a using Nat.strongRecOn with
 | _ a ih =>
 intro ha x hx
 have hrec:=HU t a ha (hval.parentsOK a)
 have hpar:=hval.parent a _ (aA ha)
 obtain ⟨k,hk,rfl⟩:=aM hx
 by_cases h0:k<(t.attrs a).length - t.nodes[a].attrs.length
 ·by_cases hp:0≤t.nodes[a].parent
  ·rw [if_pos hp] at hrec
   have hl:(t.attrs a).length=(t.attrs t.nodes[a].parent.toNat).length+t.nodes[a].attrs.length:=by rw [hrec];simp
   have hkp:k<(t.attrs t.nodes[a].parent.toNat).length:=by omega
   have he:(t.attrs a)[k]=(t.attrs t.nodes[a].parent.toNat)[k]:=by
    have:(t.attrs a)[k]?=(t.attrs t.nodes[a].parent.toNat)[k]?:=by rw [hrec,aX hkp]
    rw [aA hk,aA hkp] at this
    exact Option.some.inj this
   rw [he]
   exact ih _ (by omega) (by omega) _ (aC hkp)
  ·rw [if_neg hp] at hrec
   have hl:(t.attrs a).length=t.nodes[a].attrs.length:=by rw [hrec];simp
   omega
 ·exact Kk ha (hN a ha) k (by omega) hk
theorem HV {t:Types}(hv:t.valid):∀ b:Nat,b<t.nodes.length→∀ a:Nat,mem (t.line b) (a:Int)=true→∃ r,t.attrs b=t.attrs a++r:=by
 intro b
 induction b using Nat.strongRecOn with
 | _ b ih =>
 intro hb a hm
 have hpar:=hv.parent b _ (aA hb)
 rw [AU t b hb (hv.parentsOK b),wY,cK] at hm
 rcases hm with hm|hm
 ·by_cases h0:0≤t.nodes[b].parent
  ·rw [if_pos h0] at hm
   obtain ⟨r,hr⟩:=ih t.nodes[b].parent.toNat (by omega) (by omega) a hm
   exact ⟨r++t.nodes[b].attrs,by rw [HU t b hb (hv.parentsOK b),if_pos h0,hr,List.append_assoc]⟩
  ·rw [if_neg h0,DG] at hm;cases hm
 ·simp at hm
  have:a=b:=by omega
  subst this
  exact ⟨[],by simp⟩
structure SOk (p:Pattern) (h:Host) (m:Part):Prop where
 vars:0≤p.vars∧p.vars≤12
 node:∀ s∈p.slots,0≤s.node∧s.node<m.nodes.length
 img:∀ k∈m.nodes,0≤k∧k<h.values.length
 attr:∀ s∈p.slots,0≤s.attr∧s.attr<(h.values[(m.nodes[s.node.toNat]?.getD 0).toNat]?.getD []).length
 small:∀ l∈h.values,∀ v∈l,-1000000≤v∧v≤1000000
 term:∀ s∈p.slots,rL s.term p.vars.toNat
 test:∀ x∈p.tests,M8 x p.vars.toNat
def nC (im keep:List Int):List Int:=((List.range im.length).filter fun (i:Nat)=>!mem keep i).map fun i=>im[i]?.getD 0
def C2 (g:Graph)(me gone:List Int)(k:Nat):Bool:=!mem me k&&(mem gone (g.edges[k]?.getD cC).from_||mem gone (g.edges[k]?.getD cC).to_)
def Fy (g:Graph)(me gone:List Int):List Int:=((List.range g.edges.length).filter (C2 g me gone)).map fun (b:Nat)=>(b:Int)
def Ad (im keep:List Int)(i k:Nat):Bool:=decide (im[i]?.getD 0=im[k]?.getD 0)&&(!mem keep i||!mem keep k)
def nU (im keep:List Int)(i j:Nat):List (Nat × Nat):=((List.range j).filter fun b=>Ad im keep i (i+1+b)).map fun b=>(i,i+1+b)
def IS (im keep:List Int)(n:Nat):List (Nat × Nat):=(List.range n).flatMap fun i=>nU im keep i (im.length - (i+1))
def uV (im keep:List Int):List (Nat × Nat):=IS im keep im.length
def cPr (p:Nat × Nat):List D:=[dI p.1,dI p.2]
@[go_sem] theorem UW (p:Nat × Nat):D.clL (cPr p)=true:=rfl
@[go_sem] theorem YS (l:List (Nat × Nat)):D.clLL (l.map cPr)=true:=cE _ UW l
theorem KV (im keep:List Int)(i j:Nat):nU im keep i (j+1)=nU im keep i j++(if Ad im keep i (i+1+j)=true then [(i,i+1+j)] else []):=by
 unfold nU
 rw [cA,eU,List.map_append]
 congr 1
 by_cases h:Ad im keep i (i+1+j)=true<;>simp [h]
theorem HI (im keep:List Int)(n:Nat):IS im keep (n+1)=IS im keep n++nU im keep n (im.length - (n+1)):=by
 unfold IS;rw [cA,Ao];simp
theorem Fv (im keep:List Int)(i j:Nat):(nU im keep i j).length≤j:=by
 unfold nU;rw [bM];exact cQ (fJ _ _) (by simp)
theorem A8 (im keep:List Int):∀ n,(IS im keep n).length≤n * im.length
 | 0=>by simp [IS]
 | n+1=>by
  have h1:=A8 im keep n
  have h2:=Fv im keep n (im.length - (n+1))
  rw [HI,aT,Nat.add_mul]
  omega
theorem uT (im keep:List Int){i:Nat}(h:i<im.length):((List.range (i+1)).filter fun (i:Nat)=>!mem keep i).map (fun i=>im[i]?.getD 0)=((List.range i).filter fun (i:Nat)=>!mem keep i).map (fun i=>im[i]?.getD 0)++(if (!mem keep i)=true then [im[i]] else []):=by
 rw [cA,eU,List.map_append]
 congr 1
 by_cases hm:(!mem keep i)=true
 ·rw [if_pos hm];simp at hm;simp [hm,h]
 ·rw [if_neg hm];simp at hm;simp [hm]
theorem B9 {im keep:List Int}{x:Int}:x∈nC im keep↔∃ i:Nat,i<im.length∧mem keep i=false∧im[i]?=some x:=by
 unfold nC
 simp only [aS,dM,b7,cH]
 constructor
 ·rintro ⟨i,⟨h1,h2⟩,h3⟩
  rw [aA h1] at h3
  exact ⟨i,h1,h2,by rw [aA h1];exact congrArg some h3⟩
 ·rintro ⟨i,h1,h2,h3⟩
  exact ⟨i,⟨h1,h2⟩,by rw [h3];rfl⟩
def compG (l g:Graph)(keep m:Part):Int:=if fH l g m≠0 then fH l g m else subF l keep
def xM (l g:Graph)(keep m:Part):Int :=
 if compG l g keep m≠0 then compG l g keep m
 else if 0<(uV m.nodes keep.nodes).length+(uV m.edges keep.edges).length then 15
 else if 0<(Fy g m.edges (nC m.nodes keep.nodes)).length then 14 else 0
def zK (l g:Graph)(keep m:Part):Part:=if xM l g keep m=0 then ⟨cV (nC m.nodes keep.nodes) g.nodes.length,cV (nC m.edges keep.edges) g.edges.length⟩ else ⟨[],[]⟩
theorem Rb {g:Graph}{me gone:List Int}{k:Nat}(h:k<g.edges.length):C2 g me gone k=(!mem me k&&(mem gone g.edges[k].from_||mem gone g.edges[k].to_)):=by
 unfold C2;rw [aA h];rfl
def IA (l:List Attr)(vs:List Int)(k:Nat):Int:=if vs[k]?.getD 0<(l[k]?.getD qH).low∨(l[k]?.getD qH).high<vs[k]?.getD 0 then 6 else 0
def kA (t:Types)(kind:Int)(vs:List Int):Int :=
 if (t.nodes.length:Int)≤kind then 6 else if Br t kind.toNat=true then 13 else if vs.length≠(cN t kind).length then 20 else bY (IA (cN t kind) vs) 0 (cN t kind).length
def jH (f:Nat→Int):Nat→Nat→Int × Int
 | k,0=>(-1,0)
 | k,n+1=>if f k≠0 then ((k:Int),f k) else jH f (k+1) n
theorem A2 (f:Nat→Int){k n:Nat}(h:k<n):jH f k (n - k)=if f k≠0 then ((k:Int),f k) else jH f (k+1) (n - (k+1)):=by
 obtain ⟨m,hm⟩:∃ m,n - k=m+1:=⟨n - k - 1,by omega⟩
 rw [hm,show n - (k+1)=m by omega];rfl
theorem sF (f:Nat→Int):∀ n k,(jH f k n).2=bY f k n
 | 0,k=>rfl
 | n+1,k=>by simp only [jH,bY];split<;>simp_all [sF f n]
def Mt (t:Types)(h:Host)(i:Nat):Int:=kA t (h.graph.nodes[i]?.getD 0) (h.values[i]?.getD [])
def Ts (t:Types)(h:Host)(i:Nat):Int:=if (t.edges.length:Int)≤(h.graph.edges[i]?.getD cC).type then 6 else
 if rA t (h.graph.edges[i]?.getD cC).type (gN h.graph (h.graph.edges[i]?.getD cC).from_) (gN h.graph (h.graph.edges[i]?.getD cC).to_)=true then 0 else 13
def vG (t:Types)(h:Host):Int × Int :=
 if (cJ t).2≠0 then (-1,(cJ t).2) else if graphF h.graph≠0 then (-1,graphF h.graph) else if h.values.length≠h.graph.nodes.length then (-1,20)
 else if (jH (Mt t h) 0 h.graph.nodes.length).2≠0 then jH (Mt t h) 0 h.graph.nodes.length else jH (Ts t h) 0 h.graph.edges.length
def eR (t:Types)(h:Host):Int:=(vG t h).2
structure Srch where
 t:Types
 p:Graph
 g:Graph
 pn:List Int
 pe:List Int
 inj:Bool
def UM (y:Edge):List Int:=[y.type,y.from_,y.to_]
def A1 (l:List Int)(i k:Nat):Bool:=decide (l[i]?.getD (-1)<0)||decide (l[i]?.getD (-1)=(k:Int))
def yY (t:Types)(a b:Int):Bool:=mem (t.line b.toNat) a
def Xm (p:Graph)(ns:List Int)(i:Nat):Edge:=⟨(p.edges[i]?.getD cC).type,ns[(p.edges[i]?.getD cC).from_.toNat]?.getD 0,ns[(p.edges[i]?.getD cC).to_.toNat]?.getD 0⟩
def IJ (S:Srch)(ns:List Int)(i k:Nat):Bool:=decide (UM (S.g.edges[k]?.getD cC)=UM (Xm S.p ns i))
def O0 (S:Srch)(l:List Int)(k:Nat):Bool:=A1 S.pn l.length k&&(!(S.inj&&mem l k)&&yY S.t (S.p.nodes[l.length]?.getD 0) (S.g.nodes[k]?.getD 0))
def Sj (S:Srch)(ns l:List Int)(k:Nat):Bool:=A1 S.pe l.length k&&(!(S.inj&&mem l k)&&IJ S ns l.length k)
def Nf (S:Srch)(N:Nat)(ns:List Int):Nat→List Int→List Part→List Part
 | 0,l,ou=>if N≤ou.length then ou else ou++[⟨ns,l⟩]
 | d+1,l,ou=>if N≤ou.length then ou else (List.range S.g.edges.length).foldl (fun ou k=>if Sj S ns l k=true then Nf S N ns d (l++[(k:Int)]) ou else ou) ou
def EI (S:Srch)(l:List Int)(i:Nat):Bool:=decide (max (S.p.edges[i]?.getD cC).from_ (S.p.edges[i]?.getD cC).to_≠(l.length:Int) - 1)||(List.range S.g.edges.length).any fun k=>A1 S.pe i k&&IJ S l i k
def rZ (S:Srch)(l:List Int):Bool:=(List.range S.p.edges.length).all (EI S l)
def Nv (S:Srch)(N:Nat):Nat→List Int→List Part→List Part
 | 0,l,ou=>if N≤ou.length then ou else Nf S N l S.p.edges.length [] ou
 | d+1,l,ou=>if N≤ou.length then ou else (List.range S.g.nodes.length).foldl (fun ou k=>if (O0 S l k&&rZ S (l++[(k:Int)]))=true then Nv S N d (l++[(k:Int)]) ou else ou) ou
/-! ### all matches -/
def Do (S:Srch)(ns:List Int):Nat→List Int→List (List Int)
 | 0,l=>[l]
 | d+1,l=>((List.range S.g.edges.length).filter (Sj S ns l)).flatMap fun (k:Nat)=>Do S ns d (l++[(k:Int)])
def Fq (S:Srch):Nat→List Int→List Part
 | 0,l=>(Do S l S.p.edges.length []).map fun es=>⟨l,es⟩
 | d+1,l=>((List.range S.g.nodes.length).filter (O0 S l)).flatMap fun (k:Nat)=>Fq S d (l++[(k:Int)])
def GM (S:Srch):List Part:=Fq S S.p.nodes.length []
theorem BG {α:Type}(N:Nat)(a b:List α):((a.take N)++b).take N=(a++b).take N:=by
 rw [yR,yR,List.take_take,Nat.min_self]
 congr 1
 by_cases h:a.length≤N
 ·rw [aK h]
 ·rw [bL,sX (by omega)]
  rw [show N - N=0 by omega,show N - a.length=0 by omega]
theorem yK {α:Type}(N:Nat)(ok:Nat→Bool)(f:Nat→List α→List α)(x:Nat→List α)(hf:∀ k ou,ou.length≤N→f k ou=(ou++x k).take N) :
  ∀ (l:List Nat) (ou:List α),ou.length≤N→l.foldl (fun ou k=>if ok k=true then f k ou else ou) ou=(ou++(l.filter ok).flatMap x).take N
 | [],ou,h=>by simp [aK h]
 | k :: l,ou,h=>by
  rw [c8]
  by_cases hk:ok k=true
  ·rw [if_pos hk,hf k ou h,yK N ok f x hf l _ (by simp;omega),BG,Ga hk,vU,List.append_assoc]
  ·rw [if_neg hk,yK N ok f x hf l _ h,s5 hk]
theorem yI {α:Type}{N:Nat}{ou x:List α}(h:ou.length≤N)(h2:N≤ou.length):ou=(ou++x).take N:=by
 rw [yR,aK h,show N - ou.length=0 by omega];simp
theorem LT (S:Srch)(N:Nat)(ns:List Int):∀ (d:Nat) (l:List Int) (ou:List Part),ou.length≤N→Nf S N ns d l ou=(ou++(Do S ns d l).map fun es=>(⟨ns,es⟩:Part)).take N
 | 0,l,ou,h=>by
  simp only [Nf,Do]
  split
  ·rename_i h2;exact yI h h2
  ·rw [aK (by simp;omega)];rfl
 | d+1,l,ou,h=>by
  simp only [Nf,Do]
  split
  ·rename_i h2;exact yI h h2
  ·rw [yK N (Sj S ns l) (fun k ou=>Nf S N ns d (l++[(k:Int)]) ou) (fun k=>(Do S ns d (l++[(k:Int)])).map fun es=>(⟨ns,es⟩:Part)) (fun k ou ho=>LT S N ns d _ ou ho) _ _ h,List.map_flatMap]
theorem KR {S:Srch}{ns:List Int}:∀ (d:Nat) (l es:List Int),es∈Do S ns d l→∀ i,l.length≤i→i<l.length+d→∃ k,k<S.g.edges.length∧A1 S.pe i k=true∧IJ S ns i k=true
 | 0,l,es,_,i,h1,h2=>by omega
 | d+1,l,es,h,i,h1,h2=>by
  simp only [Do,bK,dM,b7] at h
  obtain ⟨k,⟨hk,ho⟩,hr⟩:=h
  by_cases hi:i=l.length
  ·simp only [Sj,aQ] at ho
   exact ⟨k,hk,hi ▸ ho.1,hi ▸ ho.2.2⟩
  ·exact KR d _ es hr i (by simp;omega) (by simp;omega)
theorem A4 {S:Srch}:∀ (d:Nat) (l:List Int) (m:Part),m∈Fq S d l→(∃ r,m.nodes=l++r)∧m.edges∈Do S m.nodes S.p.edges.length []
 | 0,l,m,h=>by
  simp only [Fq,aS] at h
  obtain ⟨es,he,rfl⟩:=h
  exact ⟨⟨[],by simp⟩,he⟩
 | d+1,l,m,h=>by
  simp only [Fq,bK,dM,b7] at h
  obtain ⟨k,_,hr⟩:=h
  obtain ⟨⟨r,hr1⟩,hr2⟩:=A4 d _ m hr
  exact ⟨⟨(k:Int) :: r,by rw [hr1];simp⟩,hr2⟩
theorem SK {p:Graph}{l r:List Int}{i:Nat}(h1:(p.edges[i]?.getD cC).from_.toNat<l.length)(h2:(p.edges[i]?.getD cC).to_.toNat<l.length):Xm p (l++r) i=Xm p l i:=by
 unfold Xm
 rw [aX h1,aX h2]
theorem Pu {S:Srch}(hp:graphF S.p=0)(d:Nat)(l:List Int)(h:rZ S l=false):Fq S d l=[]:=by
 rw [List.eq_nil_iff_forall_not_mem]
 intro m hm
 obtain ⟨⟨r,hr⟩,he⟩:=A4 d l m hm
 simp only [rZ,List.all_eq_false,b7] at h
 obtain ⟨i,hi,hk⟩:=h
 have hx:=((gA hp).2 _ (aC hi)).2
 simp only [EI,aA hi,aF,cK,decide_eq_true_eq,not_or,bX,b7,not_exists,not_and,ne_eq,j8,aQ] at hk
 obtain ⟨k1,k3⟩:=hk
 obtain ⟨k,a1,a2,a3⟩:=KR _ _ _ he i (dE _) (by simpa using hi)
 refine k3 k a1 a2 ?_
 unfold IJ at a3 ⊢
 rw [hr,SK (by rw [aA hi,aF];omega) (by rw [aA hi,aF];omega)] at a3
 exact a3
theorem C0 {α:Type}(ok po:Nat→Bool)(x:Nat→List α)(h:∀ k,po k=false→x k=[]):∀ l:List Nat,(l.filter fun k=>ok k&&po k).flatMap x=(l.filter ok).flatMap x
 | []=>rfl
 | k :: l=>by
  cases h1:ok k<;>cases h2:po k<;>simp [List.filter_cons,h1,h2,C0 ok po x h l,h k]
theorem Mb {S:Srch}(hp:graphF S.p=0)(N:Nat):∀ (d:Nat) (l:List Int) (ou:List Part),ou.length≤N→Nv S N d l ou=(ou++Fq S d l).take N
 | 0,l,ou,h=>by
  simp only [Nv]
  split
  ·rename_i h2;exact yI h h2
  ·rw [LT S N l _ _ _ h];rfl
 | d+1,l,ou,h=>by
  simp only [Nv]
  split
  ·rename_i h2;exact yI h h2
  ·rw [yK N (fun k=>O0 S l k&&rZ S (l++[(k:Int)])) (fun k ou=>Nv S N d (l++[(k:Int)]) ou) (fun k=>Fq S d (l++[(k:Int)])) (fun k ou ho=>Mb hp N d _ ou ho) _ _ h]
   rw [C0 (O0 S l) (fun k=>rZ S (l++[(k:Int)])) _ fun k hk=>Pu hp d _ hk];rfl
theorem Qf (S:Srch){N:Nat}(ns:List Int)(d:Nat)(l:List Int){ou:List Part}(h:ou.length≤N):(Nf S N ns d l ou).length≤N:=by
 rw [LT S N ns d l ou h];exact List.length_take_le _ _
theorem Ma {S:Srch}(hp:graphF S.p=0){N:Nat}(d:Nat)(l:List Int){ou:List Part}(h:ou.length≤N):(Nv S N d l ou).length≤N:=by
 rw [Mb hp N d l ou h];exact List.length_take_le _ _
theorem JI {S:Srch}{N:Nat}(ns:List Int)(d:Nat)(l:List Int){ou:List Part}(h:N≤ou.length):Nf S N ns d l ou=ou:=by cases d<;>simp only [Nf,if_pos h]
structure G17 (t:Types) (p g:Graph):Prop where
 v:t.valid
 gp:graphF p=0
 gg:graphF g=0
 tp:∀ a∈p.nodes,0≤a∧a<t.nodes.length
 tg:∀ a∈g.nodes,0≤a∧a<t.nodes.length
theorem DW {t:Types}{g:Graph}(h:rU t g=true):∀ a∈g.nodes,0≤a∧a<t.nodes.length:=fun a ha=>by
 simp only [rU,aQ,cH,mI,insideF,Bool.not_eq_true,Bool.not_eq_false',decide_eq_true_eq] at h
 have:=h.1 a ha
 simpa using this
theorem q8 {t:Types}{p g:Graph}(h:iF t p g=0):G17 t p g:=by
 unfold iF at h
 split at h
 ·exact absurd h (by assumption)
 ·rename_i h1
  split at h
  ·exact absurd h (by assumption)
  ·rename_i h2
   split at h
   ·exact absurd h (by assumption)
   ·rename_i h3
    split at h
    ·cases h
    ·rename_i h4
     simp only [cK,cH,not_or,Bool.not_eq_false] at h4
     exact ⟨mJ (by simpa using h1),by simpa using h2,by simpa using h3,DW h4.1,DW h4.2⟩
def P2 (t:Types)(p g:Graph)(m:Part)(i:Nat):Int :=
 if m.nodes[i]?.getD 0<0∨(g.nodes.length:Int)≤m.nodes[i]?.getD 0 then 6
 else if yY t (p.nodes[i]?.getD 0) (g.nodes[(m.nodes[i]?.getD 0).toNat]?.getD 0)=true then 0 else 13
def jW (t:Types)(p g:Graph)(m:Part)(inj:Bool):Int :=
 if m.nodes.length≠p.nodes.length∨m.edges.length≠p.edges.length then 20
 else if bY (P2 t p g m) 0 p.nodes.length≠0 then bY (P2 t p g m) 0 p.nodes.length
 else if bY (l9 p g m) 0 p.edges.length≠0 then bY (l9 p g m) 0 p.edges.length
 else if inj=true∧(¬ m.nodes.Nodup∨¬ m.edges.Nodup) then 5 else 0
def fY (t:Types)(p g:Graph)(m:Part)(inj:Bool):Int:=if iF t p g≠0 then iF t p g else jW t p g m inj
def Srch.cells (S:Srch)(most:Int)(fd:D):List D:=[.list (S.t.nodes.map NodeTy.c),.list (S.t.edges.map EdgeTy.c),dLI S.p.nodes,.list (S.p.edges.map Edge.c),dLI S.g.nodes,.list (S.g.edges.map Edge.c),dLI S.pn,dLI S.pe,.bool S.inj,dI most,fd]
structure Mat where
 m:Part
 vars:List Int
def Mat.c (x:Mat):List D:=[dLI x.m.nodes,dLI x.m.edges,dLI x.vars]
def Mat.d (x:Mat):D:=.agg x.c
@[go_sem] theorem Mat.cl (x:Mat):D.clL x.c=true:=by simp [Mat.c,D.clL,mC]
@[go_sem] theorem Yh (l:List Mat):D.clLL (l.map Mat.c)=true:=cE _ Mat.cl l
def GA (l:List Part):List Part × Int:=if 5000<(l.take 5001).length then ([],3) else (l.take 5001,0)
def pJ (t:Types)(p g:Graph)(inj:Bool):List Part × Int:=if iF t p g≠0 then ([],iF t p g) else GA (GM ⟨t,p,g,List.replicate p.nodes.length (-1),List.replicate p.edges.length (-1),inj⟩)
def Kg (n:Int)(l:List Int)(i:Nat):Int:=if l[i]?.getD 0 < -1∨n≤l[i]?.getD 0 then 6 else 0
def vD (l:List Int)(n:Int):Int:=bY (Kg n l) 0 l.length
def tT (t:Types)(p g:Graph)(q:Part)(inj:Bool):List Part × Int :=
 if iF t p g≠0 then ([],iF t p g)
 else if q.nodes.length≠p.nodes.length∨q.edges.length≠p.edges.length then ([],20)
 else if vD q.nodes g.nodes.length≠0 then ([],vD q.nodes g.nodes.length)
 else if vD q.edges g.edges.length≠0 then ([],vD q.edges g.edges.length)
 else GA (GM ⟨t,p,g,q.nodes,q.edges,inj⟩)
def EJ (n:Nat)(at_ im:List Int):List Int:=(List.range at_.length).foldl (fun acc i=>acc.set (at_[i]?.getD 0).toNat (im[i]?.getD 0)) (List.replicate n (-1))
def tK (c:Part)(q:Pattern)(m:Part):Part:=⟨EJ q.graph.nodes.length c.nodes m.nodes,EJ q.graph.edges.length c.edges m.edges⟩
def wF (q:Pattern)(h:Host)(vars:List Int)(l:List Part):List Mat:=l.filterMap fun x=>if (gH q h x vars).2=0 then some ⟨x,(gH q h x vars).1⟩ else none
def Cc (t:Types)(c:Part)(q:Pattern)(h:Host)(m:Mat)(inj:Bool):List Mat × Int :=
 if (tT t q.graph h.graph (tK c q m.m) inj).2≠0 then ([],(tT t q.graph h.graph (tK c q m.m) inj).2)
 else (wF q h m.vars (tT t q.graph h.graph (tK c q m.m) inj).1,0)
/-! ### conditions: the first witness -/
inductive Prf where
 | mk (choice:Int) (m:Mat) (kids:List Prf)
mutual
def Prf.c:Prf→List D
 | .mk ch m l=>[dI ch,dLI m.m.nodes,dLI m.m.edges,dLI m.vars,.list (Prf.cs l)]
def Prf.cs:List Prf→List (List D)
 | []=>[]
 | p :: l=>p.c :: Prf.cs l
end
theorem Prf.cs_eq (l:List Prf):Prf.cs l=l.map Prf.c:=by
 induction l with
 | nil=>simp [Prf.cs]
 | cons a l ih=>simp [Prf.cs,ih]
theorem Prf.c_eq (ch:Int)(m:Mat)(l:List Prf):(Prf.mk ch m l).c=[dI ch,dLI m.m.nodes,dLI m.m.edges,dLI m.vars,.list (l.map Prf.c)]:=by simp [Prf.c,Prf.cs_eq]
mutual
theorem Prf.cl:∀ x:Prf,D.clL x.c=true
 | .mk ch m l=>by
  have:=Prf.cls l
  simp [Prf.c,D.clL,D.cl,dI,mC,this]
theorem Prf.cls:∀ l:List Prf,D.clLL (Prf.cs l)=true
 | []=>by simp [Prf.cs,D.clLL]
 | c :: l=>by simp [Prf.cs,D.clLL,Prf.cl c,Prf.cls l]
end
attribute [go_sem] Prf.cl
@[go_sem] theorem X1 (l:List Prf):D.clLL (l.map Prf.c)=true:=by rw [← Prf.cs_eq];exact Prf.cls l
mutual
theorem U8:∀ x:Prf,fW x.c=x.c
 | .mk ch m l=>by
  have:=Jk l
  simp [Prf.c,fW,jY,dI,dLI,jC,this]
theorem Jk:∀ l:List Prf,dX (Prf.cs l)=Prf.cs l
 | []=>by simp [Prf.cs,dX]
 | c :: l=>by simp [Prf.cs,dX,U8 c,Jk l]
end
theorem j9 (l:List Prf):dX (l.map Prf.c)=l.map Prf.c:=by rw [← Prf.cs_eq];exact Jk l
def mB:Mat:=⟨⟨[],[]⟩,[]⟩
def kU:Prf:=.mk 0 mB []
def Ub (e:Int):Int:=if e=0 then 10 else if e=10 then 0 else e
def PT:List (Prf × Int)→List Prf→Prf × Int
 | [],acc=>(.mk 0 mB acc,0)
 | (p,e) :: l,acc=>if e≠0 then (kU,e) else PT l (acc++[p])
def VC:List (Prf × Int)→Nat→Prf × Int
 | [],_=>(kU,10)
 | (p,e) :: l,i=>if e≠10 then (.mk i mB [p],e) else VC l (i+1)
def VO:List (Mat × (Prf × Int))→Prf × Int
 | []=>(kU,10)
 | (m,(p,e)) :: l=>if e≠10 then (.mk 0 m [p],e) else VO l
def KJ (fs:List (Mat→Prf × Int)):Mat→Prf × Int:=fs.head?.getD fun _=>(kU,0)
mutual
def rN (t:Types)(h:Host)(inj:Bool):Cond→Mat→Prf × Int
 | .mk k l mp q=>fun m =>
  if k=2 then (kU,Ub (KJ (CC t h inj l) m).2)
  else if k=3 then PT ((CC t h inj l).map fun f=>f m) []
  else if k=4 then VC ((CC t h inj l).map fun f=>f m) 0
  else if k=5 then (if (Cc t mp q h m inj).2≠0 then (kU,(Cc t mp q h m inj).2) else VO ((Cc t mp q h m inj).1.map fun x=>(x,KJ (CC t h inj l) x)))
  else (kU,0)
def CC (t:Types)(h:Host)(inj:Bool):List Cond→List (Mat→Prf × Int)
 | []=>[]
 | c :: l=>rN t h inj c :: CC t h inj l
end
theorem P7 (t:Types)(h:Host)(inj:Bool)(l:List Cond):CC t h inj l=l.map (rN t h inj):=by
 induction l with
 | nil=>simp [CC]
 | cons a l ih=>simp [CC,ih]
theorem Nb (t:Types)(h:Host)(inj:Bool)(c:Cond)(m:Mat):rN t h inj c m =
  if c.kind=2 then (kU,Ub (KJ (c.kids.map (rN t h inj)) m).2)
  else if c.kind=3 then PT (c.kids.map fun k=>rN t h inj k m) []
  else if c.kind=4 then VC (c.kids.map fun k=>rN t h inj k m) 0
  else if c.kind=5 then (if (Cc t c.map c.pattern h m inj).2≠0 then (kU,(Cc t c.map c.pattern h m inj).2) else VO ((Cc t c.map c.pattern h m inj).1.map fun x=>(x,KJ (c.kids.map (rN t h inj)) x)))
  else (kU,0):=by
 cases c;simp only [rN,P7,Cond.kind,Cond.kids,Cond.map,Cond.pattern,List.map_map];rfl
def RR (t:Types)(h:Host)(inj:Bool)(c:Cond)(m:Mat):Int:=(rN t h inj c m).2
def tP (t:Types)(h:Host)(inj:Bool)(c:Cond)(m:Mat):Bool × Int:=if RR t h inj c m=10 then (false,0) else (decide (RR t h inj c m=0),RR t h inj c m)
/-! ### a step -/
def eZ (t:Types)(p:Pattern)(h:Host)(m:Part):List Int × Int :=
 if dG t p≠0 then ([],dG t p) else if eR t h≠0 then ([],eR t h) else if fY t p.graph h.graph m false≠0 then ([],fY t p.graph h.graph m false) else gH p h m []
def iJ (t:Types)(p:Pattern)(h:Host)(inj:Bool):List Mat × Int :=
 if dG t p≠0 then ([],dG t p) else if eR t h≠0 then ([],eR t h)
 else if (pJ t p.graph h.graph inj).2≠0 then ([],(pJ t p.graph h.graph inj).2) else (wF p h [] (pJ t p.graph h.graph inj).1,0)
def xC (p g:Graph)(m:Part):Graph:=⟨m.nodes.map (gN g),p.edges⟩
def BU (t:Types)(r:Rule)(h:Host)(m:Mat):Int :=
 if fY t r.left.graph h.graph m.m r.inj≠0 then 1
 else if (eZ t r.left h m.m).2≠0 then (eZ t r.left h m.m).2
 else if (eZ t r.left h m.m).1≠m.vars then 11
 else xM (xC r.left.graph h.graph m.m) h.graph r.keep m.m
def CO (t:Types)(r:Rule)(h:Host)(m:Mat):Int :=
 if BU t r h m≠0 then BU t r h m
 else if (tP t h r.inj r.cond m).2≠0 then (tP t h r.inj r.cond m).2
 else if (tP t h r.inj r.cond m).1=false then 16 else 0
def cX (r:Rule)(h:Host)(m:Mat):Part:=zK (xC r.left.graph h.graph m.m) h.graph r.keep m.m
def jT (l:List Int)(n:Nat)(v:Int):Int:=(List.range n).foldl (fun acc (k:Nat)=>if l[k]?.getD (-1)=v then (k:Int) else acc) (-1)
def xR (l:List Int)(n:Nat):List Int:=(List.range n).map fun (v:Nat)=>jT l l.length v
def BX (into:List Int)(i:Nat):Nat:=((List.range i).filter fun (j:Nat)=>decide (jT into into.length j<0)).length
def MH (keep into at_:List Int)(remain:Nat)(i:Nat):Int:=if 0≤jT into into.length i then at_[(keep[(jT into into.length i).toNat]?.getD 0).toNat]?.getD 0 else ((remain+BX into i:Nat):Int)
def PB (keep into at_:List Int)(right remain:Nat):List Int:=(List.range right).map (MH keep into at_ remain)
def qK (d:List Int)(n:Nat):List Int:=xR d n
def nI (r:Rule)(h:Host)(m:Mat):Part:=⟨qK (cX r h m).nodes h.graph.nodes.length,qK (cX r h m).edges h.graph.edges.length⟩
def u6 (l tr:List Int):List Int:=l.map fun k=>tr[k.toNat]?.getD 0
def pO (r:Rule)(h:Host)(m:Mat):Part :=
 ⟨PB r.keep.nodes r.into.nodes (u6 m.m.nodes (nI r h m).nodes) r.right.graph.nodes.length (cX r h m).nodes.length,PB r.keep.edges r.into.edges (u6 m.m.edges (nI r h m).edges) r.right.graph.edges.length (cX r h m).edges.length⟩
def qY (t:Types)(k:Int):List Int:=(cN t k).map fun a=>a.low
def freshE (c:Part)(y:Edge):Edge:=⟨y.type,c.nodes[y.from_.toNat]?.getD 0,c.nodes[y.to_.toNat]?.getD 0⟩
def AY (t:Types)(r:Rule)(c:Part)(x:Host):Host :=
 ⟨⟨x.graph.nodes++r.freshN.map (gN r.right.graph),x.graph.edges++r.freshE.map (fun k=>freshE c (r.right.graph.edges[k.toNat]?.getD cC))⟩,x.values++r.freshN.map (fun k=>qY t (gN r.right.graph k))⟩
def cY (t:Types)(r:Rule)(h:Host)(m:Mat):Host:=AY t r (pO r h m) ⟨dN h.graph (cX r h m),(cX r h m).nodes.map fun k=>h.values[k.toNat]?.getD []⟩
def iI (c:Part)(s:Slot):Nat:=(c.nodes[s.node.toNat]?.getD 0).toNat
def FN (c:Part)(vs:List Int)(a b:Slot):Bool:=decide (iI c a=iI c b)&&(decide (a.attr=b.attr)&&decide (dD a.term vs≠dD b.term vs))
def Ai (c:Part)(vs:List Int)(l:List Slot):Bool:=(List.range l.length).any fun i=>(List.range i).any fun k=>match l[k]?,l[i]? with|some a,some b=>FN c vs a b|_,_=>false
def EL (t:Types)(g:Graph)(c:Part)(vs:List Int)(s:Slot):Bool :=
 let a:=(cN t (g.nodes[iI c s]?.getD 0))[s.attr.toNat]?.getD qH
 decide (dD s.term vs<a.low)||decide (a.high<dD s.term vs)
def BT (t:Types)(g:Graph)(c:Part)(vs:List Int)(l:List Slot):Int:=if Ai c vs l=true then 11 else if l.any (EL t g c vs)=true then 6 else 0
def yT (c:Part)(vs:List Int)(l:List Slot)(vals:List (List Int)):List (List Int):=l.foldl (fun vals s=>vals.set (iI c s) ((vals[iI c s]?.getD []).set s.attr.toNat (dD s.term vs))) vals
def xV (t:Types)(r:Rule)(h:Host)(m:Mat):Host:=⟨(cY t r h m).graph,yT (pO r h m) m.vars r.right.slots (cY t r h m).values⟩
def j5 (t:Types)(r:Rule)(h:Host)(m:Mat):Int :=
 if CO t r h m≠0 then CO t r h m
 else if BT t (cY t r h m).graph (pO r h m) m.vars r.right.slots≠0 then BT t (cY t r h m).graph (pO r h m) m.vars r.right.slots
 else if 40<(cY t r h m).graph.nodes.length∨80<(cY t r h m).graph.edges.length then 3 else 0
structure Stp26 where
 rule:Rule
 mat:Mat
 before:Host
 after:Host
 track:Part
 comatch:Part
def Stp26.c (s:Stp26):List D:=s.rule.c++s.mat.c++s.before.c++s.after.c++[dLI s.track.nodes,dLI s.track.edges,dLI s.comatch.nodes,dLI s.comatch.edges]
def jF (t:Types)(r:Rule)(h:Host):Int:=if ruleF t r≠0 then ruleF t r else eR t h
def Dt (t:Types)(r:Rule)(h:Host)(m:Mat):Int:=if jF t r h≠0 then jF t r h else j5 t r h m
def Ic (t:Types)(r:Rule)(h:Host)(m:Mat):Stp26:=⟨r,m,h,xV t r h m,nI r h m,pO r h m⟩
def sU (t:Types)(r:Rule)(h:Host):List Mat × Int :=
 if jF t r h≠0 then ([],jF t r h) else if (iJ t r.left h r.inj).2≠0 then ([],(iJ t r.left h r.inj).2) else ((iJ t r.left h r.inj).1.filter fun m=>decide (j5 t r h m=0),0)
end Go.Abs
end

/- No call draws fewer answers: the count of draws only grows ( -/
import Derived.Test.YtiklfilfhnfagaaGreatZfS
import Derived.Test.YtiklfilfhnfagaaGreatZfR
import Derived.Test.YtiklfilfhnfagaaGreatZfO
import Derived.Test.YtiklfilfhnfagaaGreatZfG
import Derived.Test.YtiklfilfhnfagaaGreatZfA
import Derived.Calls
import Derived.StepT
import Derived.Shelf.SlSortCmp.NoneTotal
import Derived.Laws.BitsLemmas
set_option linter.unusedVariables false
set_option linter.unusedSimpArgs false
section
set_option maxRecDepth 100000
set_option maxHeartbeats 4000000
open Go Go.Proofs
namespace Go.Abs
theorem IP (w:World)(a:Addr)(n:Nat):(w.freeze a n).drawn=w.drawn:=by unfold World.freeze;split<;>rfl
theorem Cu {α:Type}:∀ (x:Ask α) (w:World),w.drawn≤(w.ask x).2.drawn
 | .done a,w=>aL _
 | .ask what range k,w=>by
  unfold World.ask
  simp only
  split
  ·exact Cu (k 0) w
  ·exact cQ (Nat.le_succ _) (Cu (k _) { w with drawn:=w.drawn+1 })
theorem On (w:World)(c:Sys):w.drawn≤(w.sys c).2.drawn:=by
 have h:=Cu (Kernel.perform c w.os) w
 unfold World.sys
 split
 ·exact aL _
 ·rename_i h1;rw [h1] at h;exact h
theorem LC {p:Program}{w w':World}{at_:Addr}{u:TypeId}{k:Addr}{v:Value}{b:Bool}{l:List Addr}(h:w.viewStore p at_ u k v b=.ok (w',l)):w'.drawn=w.drawn:=by
 unfold World.viewStore at h
 simp only [bind,Except.bind,pure,Except.pure] at h
 repeat' split at h
 all_goals first|cases h|skip
 all_goals first|rfl|simp_all
theorem Pt {p:Program}{w w':World}{a:Addr}{v:Value}{b:Bool}{l:List Addr}(h:w.farStore p a v b=.ok (w',l)):w'.drawn=w.drawn:=by
 unfold World.farStore at h
 split at h
 ·split at h
  ·rename_i h1;cases h;exact LC h1
  ·cases h
 ·cases h
def Result.drew {α:Type}(d:Nat):Result α→Prop
 | .ok _ w=>d≤w.drawn
 | .halt _ w=>d≤w.drawn
theorem JN {α:Type}(p:Program)(m:Sem α):∀ (w:World) (d:Nat),d≤w.drawn→Result.drew d (m.run p w):=by
 induction m with
 | pure a=>exact fun w d h=>h
 | load m a k ih =>
  intro w d h
  simp only [Sem.run]
  repeat' split
  all_goals first|exact ih _ _ _ h|exact h
 | store m a v k ih =>
  intro w d h
  cases v
  all_goals simp only [Sem.run]
  all_goals first|exact h|skip
  all_goals (repeat' split)
  all_goals first|exact h|exact ih (w.setCell a _) _ h|(rename_i hf;exact ih _ _ (by rw [Pt hf];exact h))
 | new o k ih=>exact fun w d h=>ih _ _ _ h
 | shape r k ih=>exact fun w d h=>ih _ _ _ h
 | freeze a n k ih=>exact fun w d h=>ih _ _ (by rw [IP];exact h)
 | frozen a k ih=>exact fun w d h=>ih _ _ _ h
 | getObj r k ih =>
  intro w d h
  simp only [Sem.run]
  repeat' split
  all_goals first|exact ih _ _ _ h|exact h
 | setObj r o k ih =>
  intro w d h
  simp only [Sem.run]
  repeat' split
  all_goals first|exact ih _ _ h|exact h
 | choose q k ih =>
  intro w d h
  simp only [Sem.run]
  split
  ·exact ih _ _ _ h
  ·exact ih _ _ _ (Nat.le_succ_of_le h)
 | sys c k ih=>exact fun w d h=>ih _ _ _ (cQ h (On w c))
 | program k ih=>exact fun w d h=>ih _ _ _ h
 | mark m k ih=>exact fun w d h=>ih _ _ h
 | halt x=>exact fun w d h=>h
theorem eL {α:Type}{p:Program}{m:Sem α}{w w':World}{a:α}{d:Nat}(h:m.run p w=.ok a w')(hd:d≤w.drawn):d≤w'.drawn:=by
 have:=JN p m w d hd
 rw [h] at this;exact this
theorem jA {α:Type}{p:Program}{m:Sem α}{w w':World}{a:Halt}{d:Nat}(h:m.run p w=.halt a w')(hd:d≤w.drawn):d≤w'.drawn:=by
 have:=JN p m w d hd
 rw [h] at this;exact this
theorem QA {α β:Type}{p:Program}{m:Sem α}{w w':World}{a:α}{d:Nat}{x y:β}(h:(m.run p w,x)=(.ok a w',y))(hd:d≤w.drawn):d≤w'.drawn:=eL (congrArg Prod.fst h) hd
theorem Mw {α β:Type}{p:Program}{m:Sem α}{w w':World}{a:Halt}{d:Nat}{x y:β}(h:(m.run p w,x)=(.halt a w',y))(hd:d≤w.drawn):d≤w'.drawn:=jA (congrArg Prod.fst h) hd
def GStep.drew (d:Nat):GStep→Prop
 | .ended ..=>True
 | .comm _ _ _ _ w _ | .go _ w _ | .spawn _ _ w _ | .count _ w _ | .timer _ _ w _ | .alone _ _ w _ | .newcoro _ _ _ w _ | .coroswitch _ _ _ w _ | .collect _ w _ | .watch _ w _=>d≤w.drawn
theorem mX {d:Nat}{es:Array Event}{s:GStep}(h:GStep.drew d s):GStep.drew d (s.after es):=by cases s<;>exact h
theorem QT {d:Nat}{c:Prop}[Decidable c]{a b:GStep}(ha:GStep.drew d a)(hb:GStep.drew d b):GStep.drew d (if c then a else b):=by split<;>assumption
theorem IR {d:Nat}(w:World)(fd:Nat)(t:ByteArray)(o:Outcome):GStep.drew d (endWith w fd t o):=by
 unfold endWith
 simp only
 repeat' split
 all_goals trivial
theorem mN {d:Nat}(fr:Frame)(m:String)(w:World)(h:d≤w.drawn):GStep.drew d (endThrow fr m w):=h
theorem tU {d:Nat}(p:Program)(fr:Frame)(v:Value)(w:World)(h:d≤w.drawn):GStep.drew d (endPrinting p fr v w):=by
 unfold endPrinting
 simp only
 split
 ·exact h
 ·trivial
theorem zJ {d:Nat}(p:Program)(fr:Frame)(cs:List Frame)(dy:Option Dying)(m:String)(w:World)(h:d≤w.drawn):GStep.drew d (endFatal p fr cs dy m w):=by
 unfold endFatal
 simp only
 split
 all_goals first|trivial|(rename_i hr;exact eL hr h)|(rename_i hr;exact jA hr h)
theorem H5 {d:Nat}(p:Program)(fr:Frame)(dy:Dying)(f:Fatal)(w:World)(h:d≤w.drawn):GStep.drew d (writeOn p fr dy f w):=by
 unfold writeOn
 simp only
 split
 ·trivial
 ·generalize (if (!(f.whole&&f.begun))=true then _ else _:Sem Unit)=m
  rw [Sem.runT_eq]
  split
  all_goals first|trivial|exact QA (by assumption) h|exact Mw (by assumption) h
theorem Q9 {d:Nat}(p:Program)(fr:Frame)(dy:Dying)(w:World)(h:d≤w.drawn):GStep.drew d (die p fr dy w):=by
 unfold die
 simp only [Sem.runT_eq]
 repeat' split
 all_goals first|exact h|trivial|exact IR _ _ _ _|exact H5 _ _ _ _ _ h|(rename_i hr;exact eL hr h)|refine mX ?_
 repeat' split
 all_goals first|trivial|exact eL (by assumption) h|exact tU _ _ _ _ (jA (by assumption) h)
theorem sR {d:Nat}(p:Program)(main:Bool)(fr:Frame)(cs:List Frame)(dy:Option Dying)(v:Value)(w:World)(h:d≤w.drawn):GStep.drew d (doReturn p main fr cs dy v w):=by
 unfold doReturn
 repeat' split
 all_goals first|exact h|trivial|(repeat' split)<;>first|exact h|trivial
theorem Bl {d:Nat}(p:Program)(fr:Frame)(cs:List Frame)(dy:Option Dying)(x:Deferred)(w:World)(h:d≤w.drawn):GStep.drew d (callDeferred p fr cs dy x w):=by
 unfold callDeferred
 simp only [Sem.runT_eq]
 refine QT trivial (mX ?_)
 ·split
  all_goals (repeat' split)
  all_goals first|trivial|exact eL (by assumption) h|exact jA (by assumption) h|exact zJ _ _ _ _ _ _ (jA (by assumption) h)|exact mN _ _ _ (jA (by assumption) h)
theorem Jv {d:Nat}(p:Program)(main:Bool)(fr:Frame)(cs:List Frame)(dy:Option Dying)(w:World)(h:d≤w.drawn):GStep.drew d (unwind p main fr cs dy w):=by
 unfold unwind
 simp only [Sem.runT_eq]
 split
 ·refine mX ?_
  split
  ·exact eL (by assumption) h
  ·trivial
 ·exact Bl _ _ _ _ _ _ h
 ·split
  ·trivial
  ·repeat' split
   all_goals first|trivial|exact h|exact eL (by assumption) h|exact tU _ _ _ _ h
  ·split
   ·exact sR _ _ _ _ _ _ _ h
   ·refine mX ?_
    split
    ·exact sR _ _ _ _ _ _ _ (eL (by assumption) h)
    ·trivial
    ·trivial
theorem MD {d:Nat}(p:Program)(fr:Frame)(cs:List Frame)(dy:Option Dying)(g:Nat)(w:World)(h:d≤w.drawn):GStep.drew d (early p fr cs dy g w):=by
 unfold early
 simp only
 repeat' split
 all_goals first|trivial|exact h|exact eL (by assumption) h|(have hq:=eL (by assumption:Sem.run p (choose (Question.early g)) w=.ok _ _) h;exact hq)
theorem rI {d:Nat}(p:Program)(li:Bool)(fr:Frame)(cs:List Frame)(dy:Option Dying)(s:Sem Next)(w:World)(h:d≤w.drawn):GStep.drew d (stepG.apply p li fr cs dy s w):=by
 unfold stepG.apply
 have e:(if li=true then s.runT p w #[] else (s.run p w,#[])).1=s.run p w:=by split<;>simp [Sem.runT_eq]
 obtain ⟨r,hr⟩:∃ r,r=(if li=true then s.runT p w #[] else (s.run p w,#[])):=⟨_,rfl⟩
 rw [← hr] at e ⊢
 obtain ⟨r,es⟩:=r
 simp only at e
 subst e
 simp only
 refine mX ?_
 split
 all_goals (repeat' split)
 all_goals first|trivial|exact eL (by assumption) h|exact jA (by assumption) h|exact zJ _ _ _ _ _ _ (jA (by assumption) h)|exact mN _ _ _ (jA (by assumption) h)|exact mN _ _ _ (eL (by assumption) h)|exact MD _ _ _ _ _ _ (jA (by assumption) h)
theorem HG {d:Nat}{α:Type}{o:Option α}{a:GStep}{f:α→GStep}(ha:GStep.drew d a)(hf:∀ x,GStep.drew d (f x)):GStep.drew d (o.elim a f):=by cases o with
 | none=>exact ha
 | some x=>exact hf x
theorem OY {d:Nat}(p:Program)(li:Bool)(fr:Frame)(cs:List Frame)(dy:Option Dying)(w:World)(h:d≤w.drawn):GStep.drew d (stepG.oper p li fr cs dy w):=by
 unfold stepG.oper
 split
 ·trivial
 ·split
  all_goals exact rI _ _ _ _ _ _ _ h
theorem Pv {d:Nat}(p:Program)(main li:Bool)(fr:Frame)(cs:List Frame)(dy:Option Dying)(w:World)(h:d≤w.drawn):GStep.drew d (stepG.exec p main li fr cs dy w):=by
 unfold stepG.exec
 simp only [Sem.runT_eq]
 split
 all_goals first|exact h|exact rI _ _ _ _ _ _ _ h|trivial|skip
 all_goals (try refine HG ?_ fun _=>h)
 all_goals (repeat' split)
 all_goals first|exact h|trivial|exact rI _ _ _ _ _ _ _ h|exact eL (by assumption) h|exact OY _ _ _ _ _ _ h|exact mX (sR _ _ _ _ _ _ _ (eL (by assumption) h))|exact mX (rI _ _ _ _ _ _ _ (eL (by assumption) h))|exact jA (by assumption) h|(refine HG trivial fun e=>rI _ _ _ _ _ _ _ h)
theorem LQ {d:Nat}(p:Program)(main:Bool)(g:Goroutine)(w:World)(li:Bool)(h:d≤w.drawn):GStep.drew d (stepG p main g w li):=by
 obtain ⟨fr,cs,st,dy,off⟩:=g
 unfold stepG
 simp only
 split
 ·exact Q9 _ _ _ _ h
 ·exact Pv _ _ _ _ _ _ _ h
 ·exact Jv _ _ _ _ _ _ h
def Stepped.drew (d:Nat):Stepped→Prop
 | .next m=>d≤m.world.drawn
 | _=>True
theorem Ck {d:Nat}(p:Program)(rest:Rest)(gs:Array Goroutine)(i:Nat)(g:Goroutine)(cases:Array CommCase)(b:Bool)(sh:CommShape)(w:World)(h:d≤w.drawn):Stepped.drew d (communicate p rest gs i g cases b sh w).1:=by
 have hw:∀ w',waitingAt rest cases w=some w'→d≤w'.drawn:=fun w' hw=>by
  unfold waitingAt at hw
  repeat' split at hw
  all_goals cases hw<;>exact h
 unfold communicate
 simp only
 repeat' split
 all_goals first|trivial|exact h|exact hw _ (by assumption)|(have hq:=eL (by assumption:Sem.run p _ w=.ok _ _) h;first|exact hq|(have hq2:=eL (by assumption:Sem.run p (choose _) _=.ok _ _) hq;exact hq2)|(have hq2:=jA (by assumption:Sem.run p _ _=.halt _ _) hq;exact hq2))|skip
theorem Hi {d:Nat}(p:Program)(gs:Array Goroutine)(rest:Rest)(w:World)(h:d≤w.drawn):Stepped.drew d (look p gs rest w):=by
 unfold look
 simp only
 repeat' split
 all_goals first|trivial|exact h|(have hq:=eL (by assumption) h;exact hq)|skip
theorem LX {d:Nat}(p:Program)(m:Machine)(k:Nat)(h:d≤m.world.drawn):Stepped.drew d (serve p m k):=by
 unfold serve
 simp only
 repeat' split
 all_goals first|trivial|exact h|skip
theorem CL {d:Nat}(m:Machine)(k:Nat)(t:Timer)(a b:Nat)(h:d≤m.world.drawn):d≤(retime m k t a b).2.world.drawn:=by
 unfold retime
 simp only
 split
 ·unfold drain;split<;>exact h
 ·exact h
theorem Ia {d:Nat}(m m':Machine)(op:TimerOp)(v:Value)(h:d≤m.world.drawn)(ht:timerOp m op=.ok (v,m')):d≤m'.world.drawn:=by
 have hn:∀ (m1:Machine) (var:Addr) (f:Nat→Timer→Value × Machine),(∀ k t,d≤(f k t).2.world.drawn)→timerOp.named m1 var f=.ok (v,m')→d≤m'.world.drawn:=fun m1 var f hf hq=>by
  unfold timerOp.named at hq
  split at hq
  ·rename_i c _
   have e:=hf c (m1.rest.timers.getD c default)
   have hq:=Except.ok.inj hq
   rw [hq] at e;exact e
  ·cases hq
 have ho:∀ var m1,timerOp.opened m var=some m1→d≤m1.world.drawn:=fun var m1 hq=>by
  unfold timerOp.opened at hq
  repeat' split at hq
  all_goals cases hq<;>exact h
 unfold timerOp at ht
 split at ht
 ·repeat' split at ht
  all_goals cases ht<;>exact h
 ·exact hn _ _ _ (fun k t=>CL _ _ _ _ _ h) ht
 ·split at ht
  ·rename_i hm
   exact hn _ _ _ (fun k t=>CL _ _ _ _ _ (ho _ _ hm)) ht
  ·cases ht
 ·cases ht;exact h
theorem OA {d:Nat}(p:Program)(m:Machine)(i:Nat)(li:Bool)(h:d≤m.world.drawn):Stepped.drew d (runT p m i li).1:=by
 unfold runT
 obtain ⟨g,gs⟩:=m.gs.swapAt! i { (default:Goroutine) with status:=.finished }
 simp only
 have hs:=LQ p (i==0) g m.world li h
 generalize stepG p (i==0) g m.world li=s at hs ⊢
 cases s with
 | ended o w es=>trivial
 | comm g cases b sh w es=>exact Ck _ _ _ _ _ _ _ _ _ hs
 | go g w es=>exact hs
 | spawn g c w es=>exact hs
 | count g w es=>simp only;split<;>first|trivial|exact hs
 | alone g on w es=>exact hs
 | collect g w es=>exact Hi _ _ _ _ hs
 | watch g w es=>exact hs
 | newcoro g c x w es=>exact hs
 | coroswitch g c ex w es =>
  simp only
  split
  ·exact hs
  ·have he:=mN g.frame "coroswitch on exited coro" w hs
   split
   ·rename_i h1;rw [h1] at he;exact he
   ·trivial
  ·trivial
 | timer g op w es =>
  simp only
  split
  ·rename_i ht;have hq:=Ia (d:=d) _ _ _ _ (by exact hs) ht;exact hq
  ·rename_i msg _
   have he:=mN g.frame msg w hs
   split
   ·rename_i h1;rw [h1] at he;exact he
   ·trivial
  ·trivial
  ·trivial
def Move.drew (d:Nat):Move→Prop
 | .goroutine m _=>d≤m.world.drawn
 | .machine s _=>Stepped.drew d s
theorem An {d:Nat}(p:Program)(m:Machine)(h:d≤m.world.drawn):Move.drew d (askOn p m):=by
 unfold askOn
 simp only
 split
 ·trivial
 ·rename_i hk
  have h1:=eL hk h
  split
  ·exact LX _ _ _ h1
  ·split
   ·split
    ·exact h1
    ·split
     ·exact h1
     ·split
      ·trivial
      ·trivial
   ·split
    ·(repeat' split)<;>first|trivial|(have a:=eL (by assumption:Sem.run p (choose (.sched _)) _=.ok _ _) h1;first|exact a|(have b:=eL (by assumption:Sem.run p (choose (.extern "sched.slice" _)) _=.ok _ _) a;exact b))
    ·split
     ·trivial
     ·rename_i h2
      have h3:=eL h2 h1
      (repeat' split)<;>first|trivial|(have a:=eL (by assumption:Sem.run p (choose (.sched _)) _=.ok _ _) h3;first|exact a|(have b:=eL (by assumption:Sem.run p (choose (.extern "sched.slice" _)) _=.ok _ _) a;exact b))
     ·rename_i h2;have h3:=eL h2 h1;exact h3
     ·rename_i k _ h2
      have h3:=eL h2 h1
      (repeat' split)<;>first|trivial|(have a:=eL (d:=d) (by assumption:Sem.run p (choose (.sched _)) _=.ok _ _) (by exact h3);first|exact a|(have b:=eL (by assumption:Sem.run p (choose (.extern "sched.slice" _)) _=.ok _ _) a;exact b))
theorem Rt {d:Nat}(p:Program)(m:Machine)(h:d≤m.world.drawn):Move.drew d (ask p m):=by
 unfold ask
 split
 ·split
  ·trivial
  ·rename_i h1
   have h2:=Hi p m.gs m.rest _ (eL h1 h)
   split
   ·rename_i h3;rw [h3] at h2;exact An _ _ h2
   ·exact h2
  ·rename_i h1;exact An _ _ (eL h1 h)
 ·exact An _ _ h
theorem Pb {d:Nat}(p:Program)(m:Machine)(h:d≤m.world.drawn):Move.drew d (move p m):=by
 unfold move
 repeat' split
 all_goals first|trivial|exact h|exact Rt _ _ h
theorem Ot {d:Nat}(p:Program)(m:Machine)(h:d≤m.world.drawn):Stepped.drew d (step p m):=by
 have hm:=Pb p m h
 unfold step stepT
 split
 ·rename_i h1;rw [h1] at hm;exact OA _ _ _ _ hm
 ·rename_i h1;rw [h1] at hm;exact hm
theorem D4 {d:Nat}(p:Program):∀ (n:Nat) (m m':Machine),d≤m.world.drawn→runN p n m=.next m'→d≤m'.world.drawn
 | 0,m,m',h,hr=>by cases hr;exact h
 | n+1,m,m',h,hr=>by
  have h1:=Ot p m h
  unfold runN at hr
  split at hr
  ·rename_i h2;rw [h2] at h1;exact D4 p n _ _ h1 hr
  ·rename_i h2;exact absurd hr (h2 _)
theorem Calls.drew {P:Program}{f:FuncId}{args:Array Value}{w:World}{R:Ending→World→Prop}(h:Calls P f args w R)(hR:∀ e w',R e w'→∃ v,e=.returned v):Calls P f args w fun e w'=>R e w'∧w.drawn≤w'.drawn:=fun cs=>by
 obtain ⟨e,w',fr,h1,h2,h3⟩:=h cs
 obtain ⟨v,rfl⟩:=hR e w' h1
 refine ⟨_,w',fr,⟨h1,?_⟩,h2,h3⟩
 obtain ⟨n,hn⟩:=h2
 exact D4 P n _ _ (aL _) hn
theorem Xa {w w':World}(h:RowKit.Below w.heap.size w w')(hd:w.drawn≤w'.drawn):∃ q os,w'=Sort.grow (w.drewN q) os:=by
 refine ⟨w'.drawn - w.drawn,w'.heap.extract w.heap.size w'.heap.size,?_⟩
 have hs:=h.size
 have eh:w.heap++w'.heap.extract w.heap.size w'.heap.size=w'.heap:=by
  refine Array.ext_getElem? fun k=>?_
  by_cases hk:k<w.heap.size
  ·rw [Array.getElem?_append_left hk,h.block k hk]
  ·rw [Array.getElem?_append_right (by omega),Array.getElem?_extract]
   by_cases h2:k<w'.heap.size
   ·rw [if_pos (by omega),show w.heap.size+(k - w.heap.size)=k by omega]
   ·rw [if_neg (by omega),Array.getElem?_eq_none (by omega)]
 have ed:w.drawn+(w'.drawn - w.drawn)=w'.drawn:=by omega
 show w'=⟨w.heap++_,w.tape,w.drawn+_,w.os,w.output⟩
 rw [eh,ed,← h.tape,← h.os,← h.output]
section
variable {A:Type} {k:Nat} {c:A→List D} {M:Nat→Prop} {w:World}
def El (k:Nat)(c:A→List D)(M:Nat→Prop)(w:World):Type:={ p:List Value × A // p.1.length=k∧(∀ v∈p.1,v.oneCell'=true)∧RepL M fG mV w p.1 (c p.2) }
def El.vs (x:El k c M w):List Value:=x.1.1
def El.a (x:El k c M w):A:=x.1.2
theorem Q5 [Inhabited (El k c M w)](d:Array (El k c M w)){t:Nat}(ht:t<d.size * k):∃ (h1:t / k<d.size) (h2:t % k<(El.vs d[t / k]).length),(Sort.flatK El.vs k d)[t]! = (El.vs d[t / k])[t % k]:=by
 have k0:0<k:=by
  rcases Nat.eq_zero_or_pos k with h|h
  ·subst h;simp at ht
  ·exact h
 have h1:t / k<d.size:=Nat.div_lt_of_lt_mul (by rw [oZ];exact ht)
 have h2:t % k<(El.vs d[t / k]).length:=by rw [show (El.vs d[t / k]).length=k from d[t / k].2.1];exact Nat.mod_lt _ k0
 refine ⟨h1,h2,?_⟩
 rw [Sort.get_flatK _ _ _ _ ht,getElem!_pos d _ h1,getElem!_pos (El.vs d[t / k]) (t % k) h2]
theorem UK [Inhabited (El k c M w)](hc:∀ a,(c a).length=k)(d:Array (El k c M w)):RepL M fG mV w (Sort.flatK El.vs k d).toList ((d.toList.map El.a).map c).flatten:=by
 have hl:∀ x∈(d.toList.map El.a).map c,x.length=k:=fun x hx=>by obtain ⟨a,_,rfl⟩:=aS.1 hx;exact hc a
 refine ⟨by rw [jG _ hl];simp,fun t u e hu he=>?_⟩
 have ht:t<d.size * k:=by
  have:=(aI.1 hu).1;simpa using this
 obtain ⟨h1,h2,h3⟩:=Q5 d ht
 have hu':u=(El.vs d[t / k])[t % k]:=by
  rw [← h3]
  have hs:t<(Sort.flatK El.vs k d).size:=by simpa using ht
  rw [Array.getElem?_toList,aZ hs] at hu
  rw [getElem!_pos (Sort.flatK El.vs k d) t hs];exact (Option.some.inj hu).symm
 have k0:0<k:=by
  rcases Nat.eq_zero_or_pos k with h|h
  ·subst h;simp at ht
  ·exact h
 have he':=jQ _ (t / k) (c (El.a d[t / k])) hl (by simp [h1]) (t % k) (Nat.mod_lt _ k0)
 rw [show t / k * k+t % k=t by rw [oZ];exact Nat.div_add_mod t k,he] at he'
 rw [hu']
 exact d[t / k].2.2.2.rep (t % k) _ _ (aA h2) he'.symm
theorem UL [Inhabited (El k c M w)](d:Array (El k c M w)):∀ u∈(Sort.flatK El.vs k d).toList,u.oneCell'=true:=fun u hu=>by
 obtain ⟨t,ht,rfl⟩:=aM hu
 have ht':t<d.size * k:=by simpa using ht
 obtain ⟨h1,h2,h3⟩:=Q5 d ht'
 rw [Array.getElem_toList,← getElem!_pos (Sort.flatK El.vs k d) t (by simpa using ht'),h3]
 exact d[t / k].2.2.1 _ (aC h2)
end
theorem Mu {w:World}{g n:Nat}{os:Array Obj}{cur:Array Value}{e:TypeId}{fr:Nat × Nat}(F:Array Value)(hb:w.heap[g]?=some (.cells cur e fr)) :
  (Sort.grow (Sort.putRow id (Sort.ahead w n) g 0 F) os).heap[g]?=some (.cells (Sort.putCells id 0 F cur) e fr)∧w.grownBy (Sort.grow (Sort.putRow id (Sort.ahead w n) g 0 F) os) (some g):=by
 have hg:g<w.heap.size:=(kT.1 hb).1
 refine ⟨?_,rfl,rfl,rfl,by simp [Sort.grow,Sort.putRow,Sort.mapBlock,Sort.ahead],fun k hk hne=>?_⟩
 ·rw [Sort.heap_grow_old _ _ (by simpa using hg)]
  simp [Sort.putRow,Sort.mapBlock,Sort.ahead,Array.getElem?_modify,hb,Sort.onCells]
 ·rw [Sort.heap_grow_old _ _ (by simpa using hk)]
  have:g≠k:=fun e=>hne (by rw [e])
  simp [Sort.putRow,Sort.mapBlock,Sort.ahead,Array.getElem?_modify,this]
theorem Om (cur F:Array Value)(h:F.size≤cur.size):(Sort.putCells id 0 F cur).toList.take F.size=F.toList:=by
 apply eD
 intro j
 by_cases hj:j<F.size
 ·rw [rT hj,Array.getElem?_toList]
  simp [Sort.putCells,hj,show j<cur.size by omega]
 ·rw [List.getElem?_take_eq_none (by omega),bA (by simp;omega)]
section
variable {P:Program} {ρ:Go.Shelf.Ren} {A:Type}
theorem Du (L : SlLaysF0.n6 P ρ) (k : Nat) (aE : ∀ w, (isAgg (ρ.t 24)).run P w = .ok true w) (zE : ∀ w, (Go.sizeOf (ρ.t 24)).run P w = .ok k w) (c : A → List D) (hk : ∀ a, (c a).length = k) (hc : ∀ a, D.clL (c a) = true)
    (f : A → A → Int) (hO : Sort.SWO (ltOf f)) (g : Nat) (hg : ∀ a b, Pure P g [.agg (c a), .agg (c b)] (dI (f a b))) (eg : ∀ args w, (callFunc g args).run P w = .ok (.enter g args) w) (hent : RQ P (ρ.f 6))
    (hNone : ∀ (p : Option Addr) (cap : Nat) (w : World), Calls P (ρ.f 6) #[.slice p 0 cap, .func (.func g) #[] #[]] w fun e w' => e = .returned (.tuple #[]) ∧ w' = w)
    {id : Nat} {ty : TypeId} {l : List A} {H : AHeap} {Q : D → AHeap → Prop} (hl : l.length < 4611686018427387904) (hH : H.get id = some ⟨ty, k, l.map c, false⟩)
    (hQ : ∀ l' : List A, l'.Perm l → l'.Pairwise (fun a b => ¬ f b a < 0) → Q (.tup []) (H.put id ⟨ty, k, l'.map c, false⟩)) : ACalls P (ρ.f 6) [.own id l.length, .fn g []] H Q := by
  refine ⟨hent, fun M0 σ w vals hR ha => ?_⟩
  obtain ⟨hlen, hr⟩ := ha
  match vals, hlen with
  | [v, fv], _ =>
  have hv := hr 0 v _ rfl rfl
  have hf := hr 1 fv _ rfl rfl
  obtain ⟨o, ho, q⟩ := hR.lies id _ hH
  have hver : o.ver = l.length := by have := q.ver; simpa using this
  have hve : v = o.val := by
    cases hv
    rename_i _ _ h
    rcases h o ho with h' | ⟨_, h'⟩
    · omega
    · exact h'
  have hfe : fv = .func (.func g) #[] #[] := by
    cases hf with
    | fn _ vs ds h1 h2 =>
      have : vs = [] := aV h1
      rw [this]
  subst hve hfe
  obtain ⟨xs, hrow, h1, hrep⟩ := q.row
  have hsz : o.esz = k := q.sz
  have hty : o.ty = ty := q.ty
  rw [hsz] at hrow
  simp only [bM] at hrow
  have hlc : ∀ x ∈ l.map c, x.length = k := fun x hx => by obtain ⟨a, _, rfl⟩ := aS.1 hx; exact hk a
  have hxl : xs.length = l.length * k := hrow.1
  by_cases hl0 : l = []
  · subst hl0
    have hs : ∃ p cap, o.val = .slice p 0 cap := by
      rcases hrow.2 with ⟨hn, _⟩ | ⟨b, cap, cur, hval, _⟩
      · exact ⟨_, _, hn⟩
      · exact ⟨_, _, hval⟩
    obtain ⟨p, cap, hs⟩ := hs
    have hN := hNone p cap w
    rw [← hs] at hN
    refine hN.mono fun e w' ⟨he, hw⟩ => ?_
    subst hw
    have hp := Rel.put hR hH rfl ho ⟨ty, k, ([] : List A).map c, false⟩ o ⟨rfl, rfl, rfl, aL _, fun _ _ _ => rfl⟩ (fun b hb => .inl hb) (.inl rfl) hver hty hsz (fun x hx => by simp at hx) xs (by rw [hsz]; simpa using hrow) h1 hrep
    exact ⟨_, .tup [], _, _, he, hp.1, .tup [] [] rfl (fun j u d hu => by simp at hu), hp.2.1, hp.2.2, hQ [] (.refl _) .nil⟩
  · have hn0 : 0 < l.length := List.length_pos_iff.2 hl0
    rcases hrow.2 with ⟨_, h0⟩ | ⟨b, cap, cur, hval, _, hb, hnc, hcm, hcs, htk⟩
    · omega
    have hbo : o.block = some b := by unfold Ow.block; rw [hval]; rfl
    obtain ⟨M, hM⟩ : ∃ M, M = cF M0 H σ := ⟨_, rfl⟩
    have hMb : M b := by rw [hM]; exact .inr ⟨id, _, o, hH, rfl, ho, hbo⟩
    have hblk : b < w.heap.size := (hR.lt id o b ho hbo).1
    have hix : ∀ i, i < l.length → i * k + k ≤ xs.length := fun i hi => by
      rw [hxl]; have := bZ k (show i + 1 ≤ l.length from hi); rwa [Nat.add_mul, vS] at this
    have hel : ∀ i (hi : i < l.length), ((xs.drop (i * k)).take k).length = k ∧ (∀ v ∈ (xs.drop (i * k)).take k, v.oneCell' = true) ∧ RepL M fG mV w ((xs.drop (i * k)).take k) (c l[i]) := fun i hi => by
      have hx := hix i hi
      have hle : ((xs.drop (i * k)).take k).length = k := by rw [bL, dY]; omega
      refine ⟨hle, fun v hv => h1 v (dL (bN hv)), by rw [hle, hk], fun j u d hu hd => ?_⟩
      have hj : j < k := by have := (aI.1 hu).1; omega
      rw [rT hj, bG] at hu
      have hf := jQ _ i (c l[i]) hlc (by simp [hi]) j hj
      exact (hrep.rep _ u d hu (hf.trans hd)).closed (fun ad u hm hu => ⟨by rw [hM]; exact hm, hu⟩) (gF (hc _) d (aJ hd))
    obtain ⟨el, hed⟩ : ∃ el : Fin l.length → El k c M w, el = fun i => ⟨((xs.drop (i * k)).take k, l[i]), hel i i.2⟩ := ⟨_, rfl⟩
    haveI : Inhabited (El k c M w) := ⟨el ⟨0, hn0⟩⟩
    obtain ⟨d, hd⟩ : ∃ d, d = Array.ofFn el := ⟨_, rfl⟩
    have hds : d.size = l.length := by rw [hd]; simp
    have hdi : ∀ i (hi : i < d.size), d[i].vs = (xs.drop (i * k)).take k ∧ d[i].a = l[i]'(by omega) := fun i hi => by
      have e : d[i] = el ⟨i, by omega⟩ := by simp [hd]
      rw [e, hed]; exact ⟨rfl, rfl⟩
    have hfl : ∀ t (ht : t < xs.length), (Sort.flatK El.vs k d)[t]! = xs[t] := fun t ht => by
      obtain ⟨p1, p2, p3⟩ := Q5 d (t := t) (by rw [hds, ← hxl]; exact ht)
      rw [p3]
      have e1 := (hdi _ p1).1
      have e2 : t / k * k + t % k = t := by rw [oZ]; exact Nat.div_add_mod t k
      have : ((xs.drop (t / k * k)).take k)[t % k]? = some xs[t] := by
        rw [e1] at p2
        rw [rT (by rw [bL] at p2; omega), bG, e2, aA ht]
      rw [← e1, aA p2] at this
      exact Option.some.inj this
    have hHo : Sort.HoldsK El.vs k w b 0 d := fun j hj => by
      have hj' : j < xs.length := by rw [hxl, ← hds]; simpa using hj
      have hcj : cur.toList[j]? = some xs[j] := by
        have : (cur.toList.take (l.length * k))[j]? = some xs[j] := by rw [htk, aA hj']
        rwa [rT (by omega)] at this
      rw [hfl j hj']
      refine ⟨?_, by simp [World.frozen?, hb]⟩
      simp only [World.cell?, hb, dR, Option.isSome_none, dV, if_false]
      rw [← Array.getElem?_toList, hcj]; rfl
    have hcmp : CmpLays P g #[] El.vs k (fun x y : El k c M w => f x.a y.a) b 0 d.size w := fun m os dk hsd x y => by
      obtain ⟨W, hW⟩ : ∃ W, W = sortWorldK El.vs k w b 0 m dk os := ⟨_, rfl⟩
      rw [← hW]
      have hWs : w.heap.size ≤ W.heap.size := by rw [hW]; exact size_sortWorldK_c El.vs k w b 0 m dk os
      have hkp : Keeps M fG mV w M fG mV W := ⟨fun ad u hm hu => ⟨hm, by
        have hne : ad.block ≠ b := fun e => hm (by rw [e]; exact hMb)
        have hlt := World.block_lt_of_cell? w ad hu
        rw [hW]; unfold sortWorldK
        rw [Sort.cell?_grow _ _ _ (by rw [Sort.size_putRowK]; exact hlt), Sort.cell?_putRowK_other _ _ _ _ _ _ _ hne]; exact hu⟩, fun id o' h _ => absurd h (fun q => q), fun _ h => h⟩
      have hag : ∀ z : El k c M w, RepV M fG mV W (.agg (El.vs z).toArray) (.agg (c z.a)) := fun z =>
        .agg _ _ z.2.2.2.len z.2.2.1 (z.2.2.2.keep hkp).rep
      have h2 := (hg x.a y.a).2 M W [.agg (El.vs x).toArray, .agg (El.vs y).toArray] (fun b hb => b8 (oO hR b (by rw [hM] at hb; exact hb)) hWs) ⟨rfl, fun j u e hu he => by
        rcases j with _ | _ | j
        · cases hu; cases he; exact hag x
        · cases hu; cases he; exact hag y
        · simp at hu⟩
      refine (Calls.drew h2 fun e w' ⟨v, he, _⟩ => ⟨v, he⟩).mono ?_
      rintro e w' ⟨⟨v, rfl, hv, hbl⟩, hdr⟩
      cases hv
      exact ⟨rfl, Xa hbl hdr⟩
    have hO' : Sort.SWO (ltOf fun x y : El k c M w => f x.a y.a) := ⟨fun x => hO.irrefl _, fun x y z => hO.trans _ _ _, fun x y z => hO.ntrans _ _ _⟩
    have key := AnyQ.slices_SortFunc L k aE zE El.vs (fun x => x.2.1) (fun x => x.2.2.1) (fun x y : El k c M w => f x.a y.a) hO' g #[] b 0 cap d w eg hcmp hHo hblk (by omega)
    rw [hval]
    rw [hds] at key
    refine key.mono ?_
    rintro e w' ⟨rfl, d', n, os, hp, hs, rfl⟩
    have hds' : d'.size = l.length := by rw [hp.1, hds]
    obtain ⟨hh, hgr⟩ := Mu (n := n) (os := os) (Sort.flatK El.vs k d') hb
    have hfs : (Sort.flatK El.vs k d').size = l.length * k := by rw [Sort.size_flatK, hds']
    have hnk : l.length * k ≤ cap * k := bZ k hnc
    have hp2 := Rel.put hR hH rfl ho ⟨ty, k, (d'.toList.map El.a).map c, false⟩ o (w' := sortWorldK El.vs k w b 0 n d' os) (by rw [hbo]; exact hgr) (fun b hb => .inl hb) (.inl rfl) (by simp [hds', hver]) hty hsz
      (fun x hx => by obtain ⟨a, _, rfl⟩ := aS.1 hx; rw [hsz]; exact hk a) (Sort.flatK El.vs k d').toList
      (by
        rw [hsz]
        refine ⟨by simp [hds'], .inr ⟨b, cap, _, by simp [hval, hds'], dE _, hh, by simpa [hds'] using hnc, hcm, by simp [Sort.putCells, hcs], ?_⟩⟩
        have := Om cur (Sort.flatK El.vs k d') (by omega)
        rw [hfs] at this
        simpa [hds'] using this) (UL d')
      (by
        have hr := UK hk d'
        refine ⟨hr.len, fun j u e hu he => (hr.rep j u e hu he).closed (fun ad u hm hu => ⟨by rw [← hM]; exact hm, hu⟩) ?_⟩
        obtain ⟨x, hx, hxe⟩ := fQ.1 (aJ he)
        obtain ⟨a, _, rfl⟩ := aS.1 hx
        exact gF (hc a) e hxe)
    refine ⟨_, .tup [], _, _, rfl, hp2.1, .tup [] [] rfl (fun j u d hu => by simp at hu), hp2.2.1, hp2.2.2, hQ (d'.toList.map El.a) ?_ ?_⟩
    · have hle : l = d.toList.map El.a := by
        refine fS (by simp [hds]) fun i p1 p2 => ?_
        have := (hdi i (by omega)).2
        simpa using this.symm
      have h3 := hp.2.2.map El.a
      have e3 : (d'.toList.map El.a).take l.length = d'.toList.map El.a := aK (by simp [hds'])
      have e4 : (d.toList.map El.a).take l.length = d.toList.map El.a := aK (by simp [hds])
      rw [← hle] at e4
      have h4 : (d'.toList.map El.a).Perm (d.toList.map El.a) := by
        rw [← hle]; simpa [e3, e4, ← hle] using h3
      rw [hle]; exact h4
    · rw [b6]
      intro i j p1 p2 hij
      have q1 : i < d'.size := by simpa using p1
      have q2 : j < d'.size := by simpa using p2
      have := hs i j (dE _) hij (by omega)
      rw [getElem!_pos d' i q1, getElem!_pos d' j q2] at this
      unfold ltOf at this
      simpa using this
end
theorem Rh:Sort.SWO (ltOf fun a b:Arr=>bV a.key b.key) where
 irrefl a:=by unfold ltOf;simp [gC]
 trans a b c h1 h2:=by
  unfold ltOf at *;simp only [decide_eq_true_eq] at *
  exact nX (by omega) h2
 ntrans a b c h1 h2:=by
  unfold ltOf at *;simp only [decide_eq_false_iff_not] at *
  intro h3
  have n1:=jK c.key b.key
  rcases Int.lt_trichotomy (bV c.key b.key) 0 with h|h|h
  ·exact h1 (nX (by omega) h)
  ·rw [nY h] at h3;exact h1 h3
  ·exact h2 (by omega)
theorem Qg {H:AHeap}{id:Nat}{l:List Arr}{Q:D→AHeap→Prop}(hl:l.length<4611686018427387904)(hH:H.get id=some ⟨37,6,l.map Arr.c,false⟩)
  (hQ:∀ l':List Arr,l'.Perm l→l'.Pairwise (fun a b=>¬ bV b.key a.key<0)→Q (.tup []) (H.put id ⟨37,6,l'.map Arr.c,false⟩)) :
  ACalls Tryz.prog 27 [.own id l.length,.fn 26 []] H Q :=
 Du Tryz.laysSortF 6 Tryz.isAgg37 Tryz.sizeOf37 Arr.c (fun _=>rfl) Arr.cl (fun a b=>bV a.key b.key) Rh 26 qM (Go.Proofs.enters_of Tryz.func26 (by kernel_rfl) rfl)
  ⟨Tryz.f27,Tryz.func27,rfl,rfl⟩ (fun p cap w=>AnyF.slices_SortFunc_none Tryz.laysSortF p cap _ w) hl hH hQ
def Zw (x:Int):Prop:=-9223372036854775808≤x∧x≤9223372036854775807
def vN (h:Host)(n:Int):List Int:=h.values[n.toNat]?.getD []
def uP (l:List Int):List Int:=(l.length:Int) :: l
def J4 (g:Graph)(l:List Int)(k:Int):List (List Int):=(l.flatMap fun j=>[uW g j k,uW g k j])++[uW g k k]
def rP (h:Host)(l:List Int)(k:Int):List Int:=gN h.graph k :: (vN h k++(J4 h.graph l k).flatMap uP)
theorem Qt (g:Graph)(l:List Int)(k:Int):(J4 g l k).length=2 * l.length+1:=by
 unfold J4
 rw [aT,List.length_flatMap]
 induction l with
 | nil=>rfl
 | cons a l ih=>simp at ih ⊢;omega
theorem PD {a b:List Int}{i:Nat}(h1:i<a.length)(h2:i<b.length):bV (a.drop i) (b.drop i)=if cmp1 a[i] b[i]≠0 then cmp1 a[i] b[i] else bV (a.drop (i+1)) (b.drop (i+1)):=by
 rw [List.drop_eq_getElem_cons h1,List.drop_eq_getElem_cons h2]
 simp only [bV,cmp1]
 split
 ·simp
 ·split
  ·simp
  ·simp
theorem C3 (a b:List Int):Pure Tryz.prog 63 [dLI a,dLI b] (dI (bV a b)):=by
 refine Tz.pK ⟨fun _=>false,fun _=>[]⟩ Tryz.func63 rfl (fun Q hQ=>?_)
 have Y:=trivial
 refine wp (h:=cD (fun i e H=>(e 1=dLI b∧e 0=dLI a∧e 9=dLI a∧e 10=dI a.length∧e 11=dI i)∧(i≤a.length∧i≤b.length)∧(bV (a.drop i) (b.drop i)=bV a b)) (fun i=>a.length - i) 0 ⟨wg,wi,(by rfl)⟩ fun I0 hI0 i e H hi0=>?_)
 obtain ⟨E0,hi,hc⟩:=hi0
 have Y:=wa Y E0
 refine dU (fun h2=>?_) fun h2=>?_
 ·have Y:=wa Y (wa h2 (aA h2))
  refine wv (h:=?_)
  repeat first|intro _|refine ⟨fT,?_⟩
  refine wq (fun h4=>?_) fun h4=>?_
  ·have hR:bV a b=1:=by
    rw [← hc,List.drop_eq_getElem_cons h2,dW (show b.length≤i by omega)];rfl
   exact wv (h:=hQ _ _ (by simp [go_sem,hR]))
  ·have hib:i<b.length:=by omega
   have hcd:=PD h2 hib
   rw [hc] at hcd
   have Y:=wa Y (aA hib)
   refine wp (h:=aB (jJ a[i] b[i]) wl ?_)
   refine wv (h:=?_)
   repeat first|intro _|refine ⟨fT,?_⟩
   refine wq (fun h8=>?_) fun h8=>?_
   ·rw [if_pos (by simpa using h8)] at hcd
    exact wv (h:=hQ _ _ (by simp [go_sem,hcd]))
   ·rw [if_neg (by simpa using h8)] at hcd
    have hst:=hcd.symm
    exact wp (h:=wx hI0 (i+1) ⟨wg,wj,(by (exact hst))⟩)
 ·have hai:i=a.length:=by omega
  refine wv (h:=?_)
  repeat first|intro _|refine ⟨fT,?_⟩
  refine wq (fun h11=>?_) fun h11=>?_
  ·have hR:bV a b = -1:=by
    rw [← hc,dW (show a.length≤i by omega),List.drop_eq_getElem_cons (show i<b.length by omega)];rfl
   exact wv (h:=hQ _ _ (by simp [go_sem,hR]))
  ·have hR:bV a b=0:=by
    rw [← hc,dW (show a.length≤i by omega),dW (show b.length≤i by omega)];rfl
   exact wv (h:=hQ _ _ (by simp [go_sem,hR]))
theorem xG (l:List Int)(hl:l.length≤1000000):Pure Tryz.prog 101 [dLI l] (dLI (uP l)):=by
 refine Tz.pK ⟨fun t=>t==5,fun _=>[]⟩ Tryz.func101 rfl (fun Q hQ=>?_)
 have Y:=trivial
 exact wp (h:=hQ _ _ (by simp [go_sem,uP,dLI,cI,Nat.add_comm]))
theorem t7 (g:Graph)(i j:Int):(uW g i j).length≤g.edges.length:=by
 unfold uW
 rw [jN]
 unfold Al
 rw [bM]
 exact cQ (fJ _ _) (by simp)
theorem Iu (g : Graph) (l : List Int) (k : Int) : ((J4 g l k).flatMap uP).length ≤ (2 * l.length + 1) * (g.edges.length + 1) := by
  have key : ∀ ps : List (List Int), (∀ p ∈ ps, p.length ≤ g.edges.length) → (ps.flatMap uP).length ≤ ps.length * (g.edges.length + 1) := fun ps => by
    induction ps with
    | nil => simp
    | cons p ps ih =>
      intro h
      have h1 := ih fun q hq => h q (by simp [hq])
      have h2 := h p (by simp)
      have h3 : (uP p).length = p.length + 1 := by simp [uP]
      rw [vU, aT, bW, h3, Nat.add_mul, vS]
      omega
  have := key (J4 g l k) fun p hp => by
    unfold J4 at hp
    rcases aW.1 hp with hp | hp
    · obtain ⟨j, _, hp⟩ := bK.1 hp
      simp only [aO, eW, or_false] at hp
      rcases hp with rfl | rfl <;> exact t7 _ _ _
    · rw [aR.1 hp]; exact t7 _ _ _
  rwa [Qt] at this
def Iv (g:Graph)(l:List Int)(k:Int):List Int:=(l.flatMap fun j=>[uW g j k,uW g k j]).flatMap uP
theorem OX {g:Graph}{l:List Int}{k:Int}{i:Nat}(h:i<l.length):Iv g (l.take (i+1)) k=Iv g (l.take i) k++uP (uW g l[i] k)++uP (uW g k l[i]):=by
 unfold Iv
 rw [aG h,Ao,Ao]
 simp only [vU,List.flatMap_nil,gJ,List.append_assoc]
theorem J5 {g:Graph}{l:List Int}{k:Int}(hl:l.length≤1000)(he:g.edges.length≤1000):(Iv g l k).length≤2100000:=by
 have h1:=Iu g l k
 have h2:(2 * l.length+1) * (g.edges.length+1)≤2001 * 1001:=lT (by omega) (by omega)
 unfold J4 at h1
 rw [Ao,aT] at h1
 unfold Iv
 omega
theorem Iz {g:Graph}(he:g.edges.length≤1000)(i j:Int):(uP (uW g i j)).length≤1001:=by
 have:=t7 g i j
 unfold uP;simp;omega
theorem Mr (h:Host)(hv:h.values.length=h.graph.nodes.length)(hnn:h.graph.nodes.length≤1000)(he:h.graph.edges.length≤1000)(hr:∀ v∈h.values,v.length≤1000)(l:List Int)(k:Int)(hl:l.length≤1000)(hk:0≤k∧k<h.graph.nodes.length) :
  Pure Tryz.prog 65 [h.d,dLI (l++[k])] (dLI (rP h l k)):=by
 have q1:k.toNat<h.graph.nodes.length:=by omega
 have q2:k.toNat<h.values.length:=by omega
 have e0:((l++[k]).length:Int) - 1=l.length:=by simp
 have e1:((l.length:Int)).toNat=l.length:=by omega
 have e2:(l++[k])[l.length]?=some k:=by simp
 have e3:gN h.graph k=h.graph.nodes[k.toNat]:=by unfold gN;rw [aA q1];rfl
 have e4:vN h k=h.values[k.toNat]:=by unfold vN;rw [aA q2];rfl
 have e5:(l++[k]).length=l.length+1:=by simp
 have hvl:=hr _ (aC q2)
 have q3:k<(h.values.length:Int):=by omega
 have q4:Ob .i64 (l.length:Int):=eO (by omega) (by omega)
 have hpl:=Iu h.graph l k
 obtain ⟨vs,hvs⟩:∃ x,x=h.values[k.toNat]:=⟨_,rfl⟩
 obtain ⟨os,hos⟩:∃ x,x=l++[k]:=⟨_,rfl⟩
 have eo:os.length=l.length+1:=by rw [hos,e5]
 have e6:os[l.length]?=some k:=by rw [hos,e2]
 have hlo:l.length<os.length:=by omega
 have e8:os[l.length]=k:=by rw [aA hlo] at e6;exact Option.some.inj e6
 have e7:os.take l.length=l:=by rw [hos];simp
 have e9:(os.map cI).take l.length=l.map cI:=by rw [← List.map_take,e7]
 rw [← hvs] at hvl e4
 rw [← hos]
 refine Tz.pK ⟨fun t=>t==21,fun r=>match r with|2=>[(6,7),(6,8),(6,10),(6,11)]|_=>[]⟩ Tryz.func65 rfl (fun Q hQ=>?_)
 have q6:(l.length:Int)<(l.length:Int)+1∧(l.length:Int)≤(l.length:Int)+1:=by omega
 have q5:1+vs.length≤4294967296:=by omega
 have Y:=wa @Host.d.eq_1 (wa @Host.c.eq_1 (wa eo (wa e6 (wa e8 (wa e7 (wa e9 (wa hk (wa q3 (wa q4 (wa q5 (wa q6 (wa (aA q1) (wa (aA q2) (Eq.symm hvs))))))))))))))
 refine wp (h:=cD (fun i e H=>∃ c:Nat,∃ ys:List Int,(e 1=dLI os∧e 2=.adr h.c∧e 5=dI k∧e 6=.own c ys.length∧e 32=dLI l∧e 33=dI l.length∧e 34=dI i)∧(H.get c=some ⟨3,1,ys.map cI,false⟩)∧(c<H.next)∧(i≤l.length)∧(ys=h.graph.nodes[k.toNat] :: (vs++Iv h.graph (l.take i) k))) (fun i=>l.length - i) 0 ⟨6,(h.graph.nodes[k.toNat] :: vs),wg,wn,wn,wi,(by (simp [Iv]))⟩ fun I0 hI0 i e H hi0=>?_)
 obtain ⟨c,ys,E0,gc_0,nc_0,hi,hy⟩:=hi0
 have Y:=wa Y (wa @Host.c.eq_1 (wa E0 (wa gc_0 (cO nc_0))))
 refine dU (fun h4=>?_) fun h4=>?_
 ·obtain ⟨y2,hy2⟩:∃ y,y=h.graph.nodes[k.toNat] :: (vs++Iv h.graph (l.take (i+1)) k):=⟨_,rfl⟩
  have hst:y2=ys++uP (uW h.graph l[i] k)++uP (uW h.graph k l[i]):=by rw [hy2,OX h4,hy];simp
  have hyl:ys.length≤2102000:=by
   have:=J5 (g:=h.graph) (k:=k) (show (l.take i).length≤1000 by simp;omega) he
   rw [hy];simp;omega
  have hb1:=Iz he l[i] k
  have hb2:=Iz he k l[i]
  have hb3:ys.length+(uP (uW h.graph l[i] k)).length≤4294967296∧ys.length+(uP (uW h.graph l[i] k)).length+(uP (uW h.graph k l[i])).length≤4294967296:=by omega
  have Y:=wa Y (wa h4 (wa (aA h4) (wa hst hb3)))
  refine wp (h:=aB (uS h.graph (by omega) _ _) wl ?_)
  refine wp (h:=aB (xG _ (cQ (t7 _ _ _) (by omega))) wl ?_)
  refine wp (h:=aB (uS h.graph (by omega) _ _) wl ?_)
  refine wp (h:=aB (xG _ (cQ (t7 _ _ _) (by omega))) wl ?_)
  exact wp (h:=wx hI0 (i+1) ⟨c,y2,wg,wn,wn,wj,(by (exact hy2))⟩)
 ·have hyl:ys.length≤2102000:=by
   have:=J5 (g:=h.graph) (k:=k) (show (l.take i).length≤1000 by simp;omega) he
   rw [hy];simp;omega
  have hb1:=Iz he k k
  have hb3:ys.length+(uP (uW h.graph k k)).length≤4294967296:=by omega
  have hE:rP h l k=ys++uP (uW h.graph k k):=by
   rw [hy,aK (by omega)]
   unfold rP J4 Iv
   rw [e3,e4];simp
  have Y:=wa Y hb3
  refine wp (h:=aB (uS h.graph (by omega) _ _) wl ?_)
  refine wp (h:=aB (xG _ (cQ (t7 _ _ _) (by omega))) wl ?_)
  exact wp (h:=hQ _ _ (by rw [hE];simp [go_sem,Y,dLI]))
def Sn (k:Blk):Blk:={ k with es:=dX k.es }
theorem QF (l:List D):(fW l).length=l.length:=by rw [wV];simp
theorem M9 {P:Program}{f:FuncId}{args:List D}{H:AHeap}{Q:D→AHeap→Prop}{id:Nat}{k:Blk}(hk:H.get id=some k)(h:ACalls P f args (H.put id (Sn k)) Q):ACalls P f args H Q:=by
 refine ⟨h.1,fun M0 σ w vals hR ha=>?_⟩
 have hg:∀ i,(H.put id (Sn k)).get i=if i=id then some (Sn k) else H.get i:=fun i=>rfl
 have hM:cF M0 (H.put id (Sn k)) σ=cF M0 H σ:=funext fun b=>propext (by
  constructor
  ·rintro (hm|⟨i,k',o,hk',hf,ho,hb⟩)
   ·exact .inl hm
   ·rw [hg] at hk'
    split at hk'
    ·rename_i e;subst e;cases hk';exact .inr ⟨i,k,o,hk,hf,ho,hb⟩
    ·exact .inr ⟨i,k',o,hk',hf,ho,hb⟩
  ·rintro (hm|⟨i,k',o,hk',hf,ho,hb⟩)
   ·exact .inl hm
   ·by_cases e:i=id
    ·subst e;rw [hk] at hk';cases hk'
     exact .inr ⟨i,Sn k,o,by rw [hg,if_pos rfl],hf,ho,hb⟩
    ·exact .inr ⟨i,k',o,by rw [hg,if_neg e];exact hk',hf,ho,hb⟩)
 have hR':Rel M0 (H.put id (Sn k)) σ w:=by
  refine ⟨fun i hi=>?_,hR.nxt,fun i k' hk'=>?_,hR.inj,hR.lt,hR.m0⟩
  ·have:=hR.top i hi
   refine ⟨this.1,?_⟩
   rw [hg,if_neg]
   ·exact this.2
   ·rintro rfl;rw [this.2] at hk;cases hk
  ·rw [hg] at hk'
   rw [hM]
   split at hk'
   ·rename_i e;subst e;cases hk'
    obtain ⟨o,ho,l⟩:=hR.lies i k hk
    obtain ⟨xs,r1,r2,r3⟩:=l.row
    have hl:(dX k.es).length=k.es.length:=by rw [nB];simp
    refine ⟨o,ho,by rw [l.ver];exact hl.symm,l.ty,l.sz,fun c hc=>?_,xs,?_,r2,?_⟩
    ·have hc:c∈dX k.es:=hc
     rw [nB] at hc
     obtain ⟨d,hd,rfl⟩:=aS.1 hc
     rw [QF];exact l.esz d hd
    ·show w.ownsRow 0 k.ty o.esz o.val (dX k.es).length xs
     rw [hl];exact r1
    ·show RepL _ σ H.al w xs (dX k.es).flatten
     rw [zX]
     refine ⟨by rw [r3.len,bM],fun j u d hu hd=>?_⟩
     rw [aN,bC] at hd
     obtain ⟨y,hy,rfl⟩:=hd
     exact AR (r3.rep j u y hu hy)
   ·exact hR.lies i k' hk'
 have ha':RepL (cF M0 (H.put id (Sn k)) σ) σ (H.put id (Sn k)).al w vals args:=by rw [hM];exact ha
 refine (h.2 M0 σ w vals hR' ha').mono fun e w' ⟨v,d,H',σ',a,b,c,s,kp,q⟩=>⟨v,d,H',σ',a,b,c,s,?_,q⟩
 rw [hM] at kp
 exact kp
theorem Lz {P:Program}{f:FuncId}{args args':List D}{H:AHeap}{Q:D→AHeap→Prop}(ids:List Nat)(hl:args'.length=args.length)
  (ha:∀ (j:Nat) (d d':D),args[j]?=some d→args'[j]?=some d'→d'=d∨(d'=Dg H d∧∀ i∈Mp d,i∈ids)) (h:ACalls P f args' (eT ids H) Q):ACalls P f args H Q:=by
 refine ⟨h.1,fun M0 σ w vals hR hv=>?_⟩
 obtain ⟨h1,h2,h3,h4⟩:=eP ids hR
 refine (h.2 M0 σ w vals h1 ⟨by rw [hv.len,hl],fun j u d' hu hd'=>?_⟩).mono fun e w' ⟨v,d,H',σ',a,b,c,s,kp,q⟩=>⟨v,d,H',σ',a,b,c,s,h2.trans kp,q⟩
 have hj:j<args.length:=by rw [← hl];exact (aI.1 hd').1
 have hd:=aA hj
 rcases ha j _ d' hd hd' with e|⟨e,hi⟩
 ·rw [e];exact (hv.rep j u _ hu hd).keep h2
 ·rw [e];exact CK hR (hv.rep j u _ hu hd) ids hi
theorem Ni {h:Host}(hr:∀ v∈h.values,v.length≤1000)(he:h.graph.edges.length≤1000){l:List Int}(hl:l.length≤8)(k:Int):(rP h l k).length≤20000:=by
 have h1:=Iu h.graph l k
 have h2:(2 * l.length+1) * (h.graph.edges.length+1)≤17 * 1001:=lT (by omega) (by omega)
 have h3:(vN h k).length≤1000:=by
  unfold vN
  by_cases hk:k.toNat<h.values.length
  ·rw [aA hk];exact hr _ (aC hk)
  ·rw [bA (by omega)];simp
 unfold rP
 rw [bW,aT]
 omega
structure BOk (S:BC):Prop where
 b:S.best.length≤1000
 l:S.least.length≤200000
theorem Nj {h : Host} {N : Nat} (hr : ∀ v ∈ h.values, v.length ≤ 1000) (he : h.graph.edges.length ≤ 1000) (hN : N ≤ 8) : ∀ (d : Nat) (l c : List Int) (S : BC), l.length + d ≤ 8 → c.length ≤ 20000 * l.length → BOk S → BOk (sN N (rP h) d l c S)
  | 0, l, c, S, hl, hc, hS => by
    simp only [sN, r9]
    split
    · exact ⟨by show l.length ≤ 1000; omega, by show c.length ≤ 200000; omega⟩
    · exact hS
  | d + 1, l, c, S, hl, hc, hS => by
    simp only [sN]
    generalize List.range N = ks
    induction ks generalizing S with
    | nil => exact hS
    | cons k ks ih =>
      rw [c8]
      refine ih _ ?_
      split
      · exact hS
      · split
        · have := Ni hr he (show l.length ≤ 8 by omega) (k : Int)
          exact Nj hr he hN d _ _ S (by simp; omega) (by simp; omega) hS
        · exact hS
def cnC (h:Host)(l c:List Int)(S:BC):List D:=[dLI h.graph.nodes,.list (h.graph.edges.map Edge.c),.list (h.values.map cL),dLI l,dLI c,dLI S.best,dLI S.least,.bool S.found]
structure CanOk (h:Host):Prop where
 vl:h.values.length=h.graph.nodes.length
 n:h.graph.nodes.length≤8
 e:h.graph.edges.length≤1000
 r:∀ v∈h.values,v.length≤1000
def S7 (h:Host)(f d:Nat):Prop:=∀ (l c:List Int) (S:BC) (G:AHeap) (Q:D→AHeap→Prop),l.length+d=h.graph.nodes.length→c.length≤20000 * l.length→BOk S→G.get f=some ⟨108,8,[cnC h l c S],false⟩→f<G.next→(∀ j,G.next≤j→¬ G.al j) →
  (∀ H',H'.get f=some ⟨108,8,[cnC h l c (sN h.graph.nodes.length (rP h) d l c S)],false⟩→(∀ x,x<G.next→x≠f→H'.get x=G.get x)→G.next≤H'.next→(∀ j,H'.next≤j→¬ H'.al j)→Q (.tup []) H')→ACalls Tryz.prog 35 [.ptr f 1 0 0] G Q
theorem GG (h:Host)(hO:CanOk h)(f:Nat):S7 h f 0:=by
 intro l c S G Q hm hcl hB gf lf hal hQ
 have ff:=cO lf
 have hb:=hB.b
 have hl2:=hB.l
 have hn8:=hO.n
 have hm:l.length=h.graph.nodes.length:=by omega
 refine (aH (cfg:=⟨fun t=>t==42||t==47||t==1000000,fun r=>match r with|2=>[(7,9),(7,10),(7,11)]|9=>[(2,4),(2,5),(2,6),(2,8),(2,9),(2,10)]|_=>[]⟩) Tz.mixed Tryz.func35 rfl rfl (aD rfl) (by kernel_rfl) ?_)
 have Y:=wa gf (wa ff (wa @cnC.eq_1 (wa @Host.c.eq_1 hm)))
 refine wp (h:=gW (fun hg=>C3 c S.least) (fun hg=>wl) ?_)
 refine qJ (fun h1=>?_) fun h1=>?_
 ·have hE:sN h.graph.nodes.length (rP h) 0 l c S=⟨true,l,c⟩:=by
   unfold sN r9;rw [if_pos (by simpa using h1)]
  refine wv (h:=?_)
  refine pH G.next (gM l (by omega)) (by first|rfl|(simp [go_sem];done)) rfl (by first|omega|(simp [go_sem];omega)|simp [go_sem]) (by simp [f8,iU,oG];first|done|exact hal _ (by omega)|omega) (by first|trivial|(simp [go_sem];done)|simp [go_sem,Dr]) ?_
  refine wv (h:=?_)
  refine pH (G.next+1) (gM c (by omega)) (by first|rfl|(simp [go_sem];done)) rfl (by first|omega|(simp [go_sem];omega)|simp [go_sem]) (by simp [f8,iU,oG];first|done|exact hal _ (by omega)|omega) (by first|trivial|(simp [go_sem];done)|simp [go_sem,Dr]) ?_
  refine wv (h:=?_)
  exact hQ _ (by rw [hE];simp [go_sem,gf,cnC,dLI]) (fun x q1 q2=>by simp [go_sem,q2,cO q1]) (by first|(simp [go_sem];done)|(simp [go_sem];omega)) (fun j hj=>by simp [go_sem,f8,iU,oG] at hj ⊢;first|done|exact hal _ (by omega)|(and_intros<;>first|omega|exact hal _ (by omega)))
 ·have hE:sN h.graph.nodes.length (rP h) 0 l c S=S:=by
   unfold sN r9;rw [if_neg (by simpa using h1)]
  refine wv (h:=?_)
  exact hQ _ (by rw [hE];simp [go_sem,gf,cnC,dLI]) (fun x q1 q2=>by simp [go_sem,q2]) (by first|(simp [go_sem];done)|(simp [go_sem];omega)) (fun j hj=>by simp [go_sem,f8,iU,oG] at hj ⊢;first|done|exact hal _ (by omega)|(and_intros<;>first|omega|exact hal _ (by omega)))
def JM (h:Host)(d:Nat)(l c:List Int)(s:BC)(k:Nat):BC:=if mem l (k:Int)=true then s else if UD (c++rP h l k) s=true then sN h.graph.nodes.length (rP h) d (l++[(k:Int)]) (c++rP h l k) s else s
theorem GF (h:Host)(hO:CanOk h)(f d:Nat)(ih:S7 h f d):S7 h f (d+1):=by
 intro l c S G Q hm hcl hB gf lf hal hQ
 have ff:=cO lf
 have hn8:=hO.n
 have hne:¬ l.length=h.graph.nodes.length:=by omega
 have hneb:((l.length:Int)==(h.graph.nodes.length:Int))=false:=by simp;omega
 have hR:sN h.graph.nodes.length (rP h) (d+1) l c S=(List.range h.graph.nodes.length).foldl (JM h d l c) S:=rfl
 refine (aH (cfg:=⟨fun t=>t==80||t==83||t==88||t==98||t==1000000,fun r=>match r with|2=>[(7,9),(7,10),(7,11)]|9=>[(2,4),(2,5),(2,6),(2,8),(2,9),(2,10)]|_=>[]⟩) Tz.mixed Tryz.func35 rfl rfl (aD rfl) (by kernel_rfl) ?_)
 have Y:=wa gf (wa ff (wa @cnC.eq_1 (wa @Host.c.eq_1 (wa hne hneb))))
 refine wp (h:=cD (fun k e H=>∃ S1:BC,(e 0=.ptr f 1 0 0∧e 60=dI h.graph.nodes.length∧e 61=dI k)∧(H.get f=some ⟨108,8,[cnC h l c S1],false⟩)∧(f<H.next)∧(k≤h.graph.nodes.length)∧(BOk S1)∧((List.range k).foldl (JM h d l c) S=S1)∧(∀ x,x<G.next→x≠f→H.get x=G.get x)∧(G.next≤H.next)∧(∀ j,H.next≤j→¬ H.al j)) (fun k=>h.graph.nodes.length - k) 0 ⟨S,wg,wn,wn,wi,(by (exact hB)),(by rfl),(by (intro x q1 q2;first|rfl|(simp [go_sem];done))),(by (first|exact aL _|(simp [go_sem];done)|(simp [go_sem];omega))),(by (intro j hj;first|exact hal j hj|(simp [go_sem,f8,iU,oG] at hj ⊢;exact hal _ (by omega))))⟩ fun I0 hI0 k e H hi0=>?_)
 obtain ⟨S1,E0,gf_0,nf_0,hk,hB1,hst,hfr,hnx,hal1⟩:=hi0
 have Y:=wa Y (wa E0 (wa gf_0 (cO nf_0)))
 refine dU (fun h4=>?_) fun h4=>?_
 ·have Y:=wa Y h4
  refine wv (h:=aB (fF l k) wl ?_)
  refine dU (fun h6=>?_) fun h6=>?_
  ·obtain ⟨S2,hS2⟩:∃ x,x=S1:=⟨_,rfl⟩
   have hB2:BOk S2:=by rw [hS2];exact hB1
   have hF2:S2=JM h d l c S1 k:=by unfold JM;rw [if_pos (by simpa using h6),hS2]
   have Y:=wa Y hS2
   exact wp (h:=wx hI0 (k+1) ⟨S2,wg,wn,wn,wj,(by (exact hB2)),(by (rw [cA,cG,hst];exact hF2.symm)),(by (intro x q1 q2;first|exact hfr x q1 q2|(simp [go_sem,q2,cO (show x<H.next by omega)];exact hfr x q1 q2)|(simp [go_sem,q2];rw [f3 x (by simp [go_sem];omega) q2];simp [go_sem,q2,cO (show x<H.next by omega)];exact hfr x q1 q2))),(by (first|exact hnx|(simp [go_sem];omega))),(by (intro j hj;first|exact hal1 j hj|(simp [go_sem,f8,iU,oG] at hj ⊢;first|exact hal1 j (by omega)|exact a3 j (by omega)|(and_intros<;>first|omega|exact hal1 _ (by omega)))))⟩)
  ·obtain ⟨sg,hsg⟩:∃ x,x=rP h l k:=⟨_,rfl⟩
   obtain ⟨c1,hc1⟩:∃ x,x=c++sg:=⟨_,rfl⟩
   obtain ⟨l1,hl1⟩:∃ x,x=l++[(k:Int)]:=⟨_,rfl⟩
   have hl1l:l1.length=l.length+1:=by rw [hl1];simp
   have hsl:sg.length≤20000:=by rw [hsg];exact Ni hO.r hO.e (by omega) (k:Int)
   have hc1l:c1.length=c.length+sg.length:=by rw [hc1];simp
   have hb:=hB1.b
   have hl2:=hB1.l
   have hcl2:c.length≤200000:=by omega
   have cPl:Pure Tryz.prog 65 [h.d,dLI l1] (dLI sg):=by rw [hl1,hsg];exact Mr h hO.vl (by omega) hO.e hO.r l k (by omega) (by omega)
   have hl1m:l.map cI++[[D.int .i64 (k:Int)]]=l1.map cI:=by rw [hl1];simp [cI]
   have hc1m:c.map cI++sg.map cI=c1.map cI:=by rw [hc1];simp
   have hmn:(min (c1.length:Int) (S1.least.length:Int)).toNat=min c1.length S1.least.length:=by omega
   have hmn2:(0:Int)≤min (c1.length:Int) (S1.least.length:Int)∧min (c1.length:Int) (S1.least.length:Int)≤S1.least.length:=by omega
   have hsF:JM h d l c S1 k=if UD c1 S1=true then sN h.graph.nodes.length (rP h) d l1 c1 S1 else S1:=by
    unfold JM;rw [if_neg (by simpa using h6),← hsg,← hc1,← hl1]
   have hgo:UD c1 S1=(!S1.found||decide (bV c1 (S1.least.take (min c1.length S1.least.length))≤0)):=rfl
   have hkh:k<h.graph.nodes.length:=by omega
   have hl1r:l.length+1=l1.length:=by omega
   have hc1r:c.length+sg.length=c1.length:=by omega
   have hmn3:(if (S1.least.length:Int)<(c1.length:Int) then (S1.least.length:Int) else (c1.length:Int)).toNat=min c1.length S1.least.length:=by split<;>omega
   have hmn4:(if S1.least.length<c1.length then (S1.least.length:Int) else (c1.length:Int)).toNat=min c1.length S1.least.length:=by split<;>omega
   have cCm:Pure Tryz.prog 63 [.list (c1.map cI),.list ((S1.least.map cI).take (min c1.length S1.least.length))] (dI (bV c1 (S1.least.take (min c1.length S1.least.length)))):=by
    have hz:=C3 c1 (S1.least.take (min c1.length S1.least.length))
    unfold dLI at hz;rw [List.map_take] at hz;exact hz
   have Y:=wa Y (wa h6 (wa hl1r (wa hc1r (wa hl1m (wa hc1m (wa hmn3 hmn4))))))
   refine wp (h:=kC (gM l (by omega)) wl ?_)
   refine wp (h:=?_)
   refine pH H.next (gM c (by omega)) (by first|rfl|(simp [go_sem];done)) rfl (by first|omega|(simp [go_sem];omega)|simp [go_sem]) (by simp [f8,iU,oG];first|done|exact hal1 _ (by omega)|(and_intros<;>first|omega|exact hal1 _ (by omega))) (by first|trivial|(simp [go_sem];done)|simp [go_sem,Dr]) ?_
   refine wp (h:=bB (cPl) wl ?_)
   refine wp (h:=gW (fun hg=>cCm) (fun hg=>wl) ?_)
   refine qJ (fun h10=>?_) fun h10=>?_
   ·obtain ⟨S2,hS2⟩:∃ x,x=sN h.graph.nodes.length (rP h) d l1 c1 S1:=⟨_,rfl⟩
    have hB2:BOk S2:=by rw [hS2];exact Nj hO.r hO.e hn8 d l1 c1 S1 (by omega) (by omega) hB1
    have hF2:S2=JM h d l c S1 k:=by rw [hsF,if_pos (by rw [hgo];simpa using h10),hS2]
    refine wv (h:=?_)
    unfold dO
    refine ih l1 c1 S1 _ _ (by omega) (by omega) hB1 ?_ ?_ ?_ (fun H3 g3 f3 n3 a3=>?_)
    focus simp [go_sem,Y,cnC,dLI]
    focus simp [go_sem];omega
    focus intro j hj;simp [go_sem,f8,iU,oG] at hj ⊢;first|done|exact hal1 _ (by omega)|(and_intros<;>first|omega|exact hal1 _ (by omega))
    simp [go_sem] at n3
    rw [← hS2] at g3
    simp only [cnC] at g3
    have Y:=wa Y g3
    exact wp (h:=wx hI0 (k+1) ⟨S2,wg,wn,wn,wj,(by (exact hB2)),(by (rw [cA,cG,hst];exact hF2.symm)),(by (intro x q1 q2;first|exact hfr x q1 q2|(simp [go_sem,q2,cO (show x<H.next by omega)];exact hfr x q1 q2)|(simp [go_sem,q2];rw [f3 x (by simp [go_sem];omega) q2];simp [go_sem,q2,cO (show x<H.next by omega)];exact hfr x q1 q2))),(by (first|exact hnx|(simp [go_sem];omega))),(by (intro j hj;first|exact hal1 j hj|(simp [go_sem,f8,iU,oG] at hj ⊢;first|exact hal1 j (by omega)|exact a3 j (by omega)|(and_intros<;>first|omega|exact hal1 _ (by omega)))))⟩)
   ·obtain ⟨S2,hS2⟩:∃ x,x=S1:=⟨_,rfl⟩
    have hB2:BOk S2:=by rw [hS2];exact hB1
    have hF2:S2=JM h d l c S1 k:=by rw [hsF,if_neg (by rw [hgo];simpa using h10),hS2]
    have Y:=wa Y hS2
    exact wp (h:=wx hI0 (k+1) ⟨S2,wg,wn,wn,wj,(by (exact hB2)),(by (rw [cA,cG,hst];exact hF2.symm)),(by (intro x q1 q2;first|exact hfr x q1 q2|(simp [go_sem,q2,cO (show x<H.next by omega)];exact hfr x q1 q2)|(simp [go_sem,q2];rw [f3 x (by simp [go_sem];omega) q2];simp [go_sem,q2,cO (show x<H.next by omega)];exact hfr x q1 q2))),(by (first|exact hnx|(simp [go_sem];omega))),(by (intro j hj;first|exact hal1 j hj|(simp [go_sem,f8,iU,oG] at hj ⊢;first|exact hal1 j (by omega)|exact a3 j (by omega)|(and_intros<;>first|omega|exact hal1 _ (by omega)))))⟩)
 ·have hkN:k=h.graph.nodes.length:=by omega
  rw [hkN] at hst
  refine wv (h:=?_)
  exact hQ _ (by rw [hR,hst];assumption) hfr hnx hal1
theorem Bi (h:Host)(hO:CanOk h)(f:Nat):∀ d,S7 h f d
 | 0=>GG h hO f
 | d+1=>GF h hO f d (Bi h hO f d)
theorem qS (l:List Int):dX (l.map cI)=l.map cI:=lK fun c hc=>by
 rw [aS] at hc;obtain ⟨y,_,rfl⟩:=hc;rfl
theorem O3 (l:List Edge):dX (l.map Edge.c)=l.map Edge.c:=lK fun c hc=>by
 rw [aS] at hc;obtain ⟨y,_,rfl⟩:=hc;rfl
theorem QB (l:List (List Int)):dX (l.map cL)=l.map cL:=lK fun c hc=>by
 rw [aS] at hc;obtain ⟨y,_,rfl⟩:=hc;simp [cL,dLI,fW,jY,qS]
theorem Pure.nzw {P:Program}{f:FuncId}{args args':List D}{r:D}(hp:Pure P f args' r)(hl:args'.length=args.length)(ha:∀ (j:Nat) (d d':D),args[j]?=some d→args'[j]?=some d'→d'=d∨d'=jY d):Pure P f args r:=by
 refine ⟨hp.1,fun M w vals hM hv=>hp.2 M w vals hM ⟨by rw [hv.len,hl],fun j u d' hu hd'=>?_⟩⟩
 have hj:j<args.length:=by rw [← hl];exact (aI.1 hd').1
 have hd:=aA hj
 rcases ha j _ d' hd hd' with e|e
 ·rw [e];exact hv.rep j u _ hu hd
 ·rw [e];exact AR (hv.rep j u _ hu hd)
def sO (t:Types):List Rule→Int
 | []=>0
 | r :: l=>if ruleF t r≠0 then ruleF t r else sO t l
def iS (t:Types)(rs:List Rule):Int:=if (cJ t).2≠0 then (cJ t).2 else if 10<rs.length then 3 else sO t rs
def Hp:Host:=⟨⟨[],[]⟩,[]⟩
theorem UA {t:Types}(h:(cJ t).2=0):eR t Hp=0:=by
 unfold eR vG Hp
 rw [if_neg (by omega)]
 simp [graphF,jH]
theorem Ch (t:Types)(ht:t.ok)(rs:List Rule)(hrs:∀ r∈rs,r.ok)(h:Host):Pure Tryz.prog 50 [t.d,.list (rs.map Rule.c),h.d] (dI (if iS t rs≠0 then iS t rs else eR t h)):=by
 refine Tz.pK ⟨fun t=>t==10,fun _=>[]⟩ Tryz.func50 rfl (fun Q hQ=>?_)
 have Y:=trivial
 refine wv (h:=aB (kZ t ht) wl ?_)
 refine dU (fun h2=>?_) fun h2=>?_
 ·have hE:iS t rs=(cJ t).2:=by unfold iS;rw [if_pos (by simpa using h2)]
  have hne:¬ (cJ t).2=0:=by simpa using h2
  exact wv (h:=hQ _ _ (by rw [hE,if_pos hne];simp [go_sem]))
 ·have hv:(cJ t).2=0:=by simpa using h2
  refine mP (fun h4=>?_) fun h4=>?_
  ·have hE:iS t rs=3:=by unfold iS;rw [if_neg (by omega),if_pos (by omega)]
   exact wv (h:=hQ _ _ (by rw [hE,if_pos (by decide)];simp [go_sem]))
  ·have hE:iS t rs=sO t rs:=by unfold iS;rw [if_neg (by omega),if_neg (by omega)]
   refine wo (h:=cD (fun i e H=>(e 1=.list (rs.map Rule.c)∧e 3=.adr t.c∧e 5=.adr h.c∧e 25=.list (rs.map Rule.c)∧e 26=dI rs.length∧e 27=dI i)∧(i≤rs.length)∧(sO t (rs.drop i)=sO t rs)) (fun i=>rs.length - i) 0 ⟨wg,wi,(by rfl)⟩ fun I0 hI0 i e H hi0=>?_)
   obtain ⟨E0,hi,hd⟩:=hi0
   have Y:=wa Y E0
   refine dU (fun h7=>?_) fun h7=>?_
   ·have hds:sO t (rs.drop i)=if ruleF t rs[i]≠0 then ruleF t rs[i] else sO t (rs.drop (i+1)):=by rw [List.drop_eq_getElem_cons h7];rfl
    rw [hd] at hds
    have Y:=wa Y (wa h7 (aA h7))
    refine wo (h:=aB (En t ht rs[i] (hrs _ (aC h7))) wl ?_)
    refine mP (fun h10=>?_) fun h10=>?_
    ·have hne:ruleF t rs[i]≠0:=by simpa using h10
     rw [if_pos hne] at hds
     exact wv (h:=hQ _ _ (by rw [hE,hds,if_pos hne];simp [go_sem]))
    ·have hst:=hds.symm
     rw [if_neg (by simpa using h10)] at hst
     exact wo (h:=wx hI0 (i+1) ⟨wg,wj,(by (exact hst))⟩)
   ·have hz:sO t rs=0:=by rw [← hd,dW (by omega)];rfl
    refine wv (h:=aB (oR t ht h) wl ?_)
    exact wv (h:=hQ _ _ (by rw [hE,hz,if_neg (by decide)];simp [go_sem,eR]))
theorem Ae (t:Types)(ht:t.ok)(rs:List Rule)(hrs:∀ r∈rs,r.ok):Pure Tryz.prog 29 [t.d,.list (rs.map Rule.c),.agg [.nil,.nil,.nil,.nil]] (.tup [.list [],dI 0,dI (iS t rs)]):=by
 have hv:(if iS t rs≠0 then iS t rs else eR t Hp)=iS t rs:=by
  split
  ·rfl
  ·rename_i h
   have h:iS t rs=0:=by omega
   have hv:(cJ t).2=0:=by
    unfold iS at h;split at h
    ·exact absurd h ‹_›
    ·omega
   rw [h,UA hv]
 have c1:=Ch t ht rs hrs Hp
 rw [hv] at c1
 have c2:Pure Tryz.prog 50 [t.d,.list (rs.map Rule.c),.agg [.nil,.nil,.nil]] (dI (iS t rs)):=c1.nzw rfl (by
  rintro (_|_|_|j) d d' q1 q2<;>simp at q1 q2
  ·exact .inl (q2.symm.trans q1)
  ·exact .inl (q2.symm.trans q1)
  ·subst q1 q2;exact .inr (by simp [Hp,Host.d,Host.c,dLI,jY,fW]))
 refine Tz.pK ⟨fun t=>t==11||t==13||t==14,fun r=>match r with|14=>[(2,4),(3,4),(2,5),(3,5)]|_=>[]⟩ Tryz.func29 rfl (fun Q hQ=>?_)
 try simp [go_sem,seval]
 refine aB (c2) ((by first|rfl|(simp [go_sem,← List.map_take,← List.map_drop];done))) ?_
 try simp [go_sem,seval]
 refine aP (fun h2=>?_) (fun h2=>?_)
 ·try simp [go_sem] at h2
  skip
  try simp [go_sem,seval]
  exact hQ _ _ (by first|(left;(simp [go_sem]);done)|(right;(simp [go_sem]);done))
 ·try simp [go_sem] at h2
  have hz:iS t rs=0:=by simpa using h2
  try simp [go_sem,seval]
  repeat first|intro _|refine ⟨oW,?_⟩
  obtain ⟨I0,hI0⟩:∃ I0:Nat→c7→AHeap→Prop,∀ (i:Nat) (e:c7) (H:AHeap),I0 i e H↔((e 3=.adr t.c)∧(e 5=.adr [.nil,.nil,.nil,.nil])∧(e 1=.list (rs.map Rule.c))∧(e 33=dI 0)∧(e 32=dI 0)∧(e 10=.nil)):=⟨fun i e H=>_,fun _ _ _=>Iff.rfl⟩
  refine qV I0 (fun i=>0 - i) (0) ((hI0 _ _ _).2 ⟨?_,?_,?_,?_,?_,?_⟩) ?_
  iterate 6 (first|omega|(simp [go_sem,seval]<;>omega))
  intro i e H hi0
  obtain ⟨q3_0,q5_0,q1_0,q33_0,q32_0,q10_0⟩:=(hI0 _ _ _).1 hi0
  have F0:=And.intro q3_0 (And.intro q5_0 (And.intro q1_0 (And.intro q33_0 (And.intro q32_0 q10_0))))
  try simp [go_sem,seval,F0]
  repeat first|intro _|refine ⟨oW,?_⟩
  exact hQ _ _ (by first|(left;(simp [go_sem,hz]);done)|(right;(simp [go_sem,hz]);done))
theorem vW (t:Types)(ht:t.ok)(rs:List Rule)(hrs:∀ r∈rs,r.ok):Pure Tryz.prog 18 [t.d,.list (rs.map Rule.c)] (dI (iS t rs)):=by
 refine Tz.pK ⟨fun _=>false,fun _=>[]⟩ Tryz.func18 rfl (fun Q hQ=>?_)
 have Y:=trivial
 refine wv (h:=aB (Ae t ht rs hrs) wl ?_)
 exact wv (h:=hQ _ _ wy)
theorem Ec (G:AHeap)(id:Nat)(n:Nat)(hg:G.get id=some ⟨3,1,(lL n).map cI,false⟩)(hl:n≤100000)(g:FuncId)(caps:List D)(hc:D.clL caps=true)(f:Int→List Int)(cg:CmpBy g caps f (lL n))(Q:D→AHeap→Prop)
  (hQ:∀ H',H'.get id=some ⟨3,1,(xB f (fun _=>true) n).map cI,false⟩→(∀ j,j≠id→H'.get j=G.get j)→G.next≤H'.next→Q (.tup []) H'):ACalls Tryz.prog 67 [.own id n,.fn g caps] G Q:=by
 have hxl:(lL n).length=n:=by simp [lL]
 refine (aH (cfg:=⟨fun _=>false,fun _=>[]⟩) Tz.mixed Tryz.func67 rfl rfl (aD rfl) (by kernel_rfl) ?_)
 have Y:=wa hg (wa hc hxl)
 refine wp (h:=?_)
 unfold dO;refine LR (A:=(n:Int)) _ _ n (by first|exact hg|(simp [go_sem];exact hg)) hl g caps hc f cg rfl _ fun H1 g1 f1 n1=>?_
 refine wp (h:=?_)
 exact hQ _ g1 (fun j hj=>by first|exact f1 j hj|(rw [f1 j hj];simp [go_sem])) (by first|exact n1|(simp [go_sem] at n1;omega))
def kW (g:Graph)(pl:List Int)(k:Int)(j:Nat):Int:=iA (w9 g pl k) j
theorem Hk (g:Graph)(pl:List Int)(k:Int):w9 g pl k=[kW g pl k 0,kW g pl k 1,kW g pl k 2,kW g pl k 3]:=by
 unfold kW w9 iA
 simp only
 split
 ·rfl
 ·split<;>rfl
theorem PC (a b c d p q r s:Int):bV [a,b,c,d] [p,q,r,s]=NA [cmp1 a p,cmp1 b q,cmp1 c r,cmp1 d s]:=by
 simp only [bV,cmp1,NA]
 repeat' split
 all_goals first|rfl|omega|simp_all
structure PlOk (g:Graph) (pl:List Int):Prop where
 gg:∀ x∈g.edges,(0≤x.from_∧x.from_<g.nodes.length)∧0≤x.to_∧x.to_<g.nodes.length
 pl:pl.length=g.nodes.length
 e:g.edges.length≤1000
theorem EY (g:Graph)(pl:List Int)(hO:PlOk g pl)(k:Nat)(hk:k<g.edges.length):Pure Tryz.prog 66 [dI k,.adr g.c,.adr [dLI pl]] (.tup [dI (kW g pl k 0),dI (kW g pl k 1),dI (kW g pl k 2),dI (kW g pl k 3)]):=by
 obtain ⟨x,hx⟩:∃ x,x=g.edges[k]:=⟨_,rfl⟩
 have hr:=hO.gg _ (aC hk)
 rw [← hx] at hr
 have hpl:=hO.pl
 have q1:x.from_.toNat<pl.length:=by omega
 have q2:x.to_.toNat<pl.length:=by omega
 have e0:eA g k=x:=by rw [Xn hk,hx]
 obtain ⟨a,ha⟩:∃ a,a=pl[x.from_.toNat]:=⟨_,rfl⟩
 obtain ⟨b,hb⟩:∃ b,b=pl[x.to_.toNat]:=⟨_,rfl⟩
 have e1:iA pl x.from_=a:=by unfold iA;rw [aA q1,← ha];rfl
 have e2:iA pl x.to_=b:=by unfold iA;rw [aA q2,← hb];rfl
 have hK:w9 g pl k=if a<b then [b,a,0,x.type] else if b<a then [a,b,1,x.type] else [b,8,0,x.type]:=by unfold w9 Pw;simp only [e0,e1,e2]
 refine Tz.pK ⟨fun t=>t==8,fun _=>[]⟩ Tryz.func66 rfl (fun Q hQ=>?_)
 have Y:=wa @Graph.c.eq_1 (wa @Edge.c.eq_1 (wa (aA hk) (wa (Eq.symm hx) (wa (aA q1) (wa (Eq.symm ha) (wa (aA q2) (wa (Eq.symm hb) (wa hr.1 hr.2))))))))
 refine qJ (fun h3=>?_) fun h3=>?_
 ·have hK1:w9 g pl k=[b,a,0,x.type]:=by rw [hK,if_pos (by simpa using h3)]
  exact wv (h:=hQ _ _ (by simp [go_sem,kW,hK1,iA]))
 ·refine dU (fun h5=>?_) fun h5=>?_
  ·have hK1:w9 g pl k=[a,b,1,x.type]:=by rw [hK,if_neg (by simpa using h3),if_pos (by simpa using h5)]
   exact wv (h:=hQ _ _ (by simp [go_sem,kW,hK1,iA]))
  ·have hK1:w9 g pl k=[b,8,0,x.type]:=by rw [hK,if_neg (by simpa using h3),if_neg (by simpa using h5)]
   exact wv (h:=hQ _ _ (by simp [go_sem,kW,hK1,iA]))
theorem Ml (g:Graph)(pl:List Int)(hO:PlOk g pl)(i k:Nat)(hi:i<g.edges.length)(hk:k<g.edges.length):Pure Tryz.prog 68 [dI i,dI k,.adr [.fn 66 [.adr g.c,.adr [dLI pl]]]] (dI (bV (w9 g pl i) (w9 g pl k))):=by
 have c1:=EY g pl hO i hi
 have c2:=EY g pl hO k hk
 have hE:=PC (kW g pl i 0) (kW g pl i 1) (kW g pl i 2) (kW g pl i 3) (kW g pl k 0) (kW g pl k 1) (kW g pl k 2) (kW g pl k 3)
 rw [← Hk,← Hk] at hE
 rw [hE]
 refine Tz.pK ⟨fun _=>false,fun _=>[]⟩ Tryz.func68 rfl (fun Q hQ=>?_)
 have Y:=trivial
 refine wv (h:=aB (c1) wl ?_)
 refine wv (h:=aB (c2) wl ?_)
 refine wv (h:=aB (jJ (kW g pl i 0) (kW g pl k 0)) wl ?_)
 refine wv (h:=aB (jJ (kW g pl i 1) (kW g pl k 1)) wl ?_)
 refine wv (h:=aB (jJ (kW g pl i 2) (kW g pl k 2)) wl ?_)
 refine wv (h:=aB (jJ (kW g pl i 3) (kW g pl k 3)) wl ?_)
 refine wv (h:=aB (MI [cmp1 (kW g pl i 0) (kW g pl k 0),cmp1 (kW g pl i 1) (kW g pl k 1),cmp1 (kW g pl i 2) (kW g pl k 2),cmp1 (kW g pl i 3) (kW g pl k 3)]) wl ?_)
 exact wv (h:=hQ _ _ wy)
end Go.Abs
end

/-
  A region that draws its order, whose effects each make one block: the run in the order of the text is what happens in any order.
-/
import Derived.Test.YtjjchnjcmnkpdaaDoorCmF
import Derived.ChangeSame
import Derived.Carry
import Derived.WalkKit
import Derived.ProofKit
import Derived.OpenShut
import Derived.JoinedCond
import Derived.KernelRfl
namespace Go.Cm
open Go
section
variable{P:Program}{w0:Start}{gl:List Nat}{nt:Nat}
def Kills(G:Nat→Heap)(i b:Nat):Prop:=(∃x,(G i).get b=some x)∧(G (i+1)).get b=none
def UB(G:Nat→Heap)(n b:Nat)(x:CObj):Prop:=∃i,i≤n∧(G i).get b=some x
structure Plan2(P:Program)(gl:List Nat)(nt:Nat)(call:CallF)(ops:Array Oper)(an:Nat→Nat→Prop)(cl:List COp)(F:Nat→Fr)(G:Nat→Heap):Prop where
 clen:cl.length=ops.size
 op:∀(i:Nat) c,cl[i]?=some c→∃o,ops[i]?=some o∧cOper gl nt P ops o=some (stripOp c)
 after:∀(i:Nat) o e,ops[i]?=some o→e∈o.after→Region.binds .any e=true→e.on<i
 anc:∀(j:Nat) o x,ops[j]?=some o→an x j→∃e∈o.after,Region.binds .any e=true∧(e.on=x∨an x e.on)
 slots:∀(p q:Nat) x y,p≠q→cl[p]?=some x→cl[q]?=some y→x.clash y=true→(p<q∧an p q)∨(q<p∧an q p)
 ng:∀(i:Nat) c,cl[i]?=some c→c.guard=none
 ran:∀(i:Nat) c,cl[i]?=some c→Ran call c (F i) (G i) (F (i+1)) (G (i+1))
 kind:∀(i:Nat) c,cl[i]?=some c→((∃p,c.ins=.pure p)∨c.ins=.pick)∨(∃n a vs v,c.ins=.read (.load n a)∧evs (F i) c.args=some vs∧readD (.load n a) vs (G i)=some v∧readD (.load n a) vs (G ops.size)=some v)∨(∃e vs,c.ins=.eff e∧e.makes=true∧evs (F i) c.args=some vs∧(G (i+1)).next≠(G i).next∧∀v∈vs,∀(a:Addr) (l k:Nat),v=.slice (some a) l k→∀x,(G (i+1)).get a.block=some x→∃y,(G ops.size).get a.block=some y)
 top:∀b,(G 0).next≤b→(G 0).get b=none
section
variable{call:CallF}{ops:Array Oper}{an:Nat→Nat→Prop}{cl:List COp}{F:Nat→Fr}{G:Nat→Heap}
theorem Plan2.shape(X:Plan2 P gl nt call ops an cl F G){i:Nat}{c:COp}(hc:cl[i]?=some c):∃v,(∀t,c.dst=some t→(F (i+1)).get t=some v)∧((G (i+1)=G i∧∀H,More (G ops.size) H→∀K,insK call c (F i) H K=K v H)∨
                                                                                                                                     ∃k o kl vs,evs (F i) c.args=some vs∧v=placeV k (G i).next∧G (i+1)=(killO (G i) kl).new o∧(∀b,kl=some b→∃y,(G i).get b=some y)∧
                                                                                                                                      (∀v∈vs,∀(a:Addr) (l k:Nat),v=.slice (some a) l k→∀x,(G (i+1)).get a.block=some x→∃y,(G ops.size).get a.block=some y)∧c.ins≠ .bad∧
                                                                                                                                      ∀H,MoreV vs (G i) H→(∀K,insK call c (F i) H K=K (placeV k H.next) ((killO H kl).new o))∧∀(μ:Mu) (w:World),RR P w0 μ H w→(∀v∈vs,∃x,VR μ v x)→knownO μ o):=by
 rcases (X.ran i c hc).how with ⟨v,hw,hins,hdst⟩|⟨hw,_⟩;rotate_left
 ·unfold wantC at hw;rw[X.ng i c hc]at hw;cases hw
 refine⟨v,hdst,?_⟩;rcases X.kind i c hc with hp|⟨n,a,vs,x,hi,hev,hr,hr2⟩|⟨e,vs,hi,hm,hev,hnx,hal⟩
 ·left;have h1:∀H K,insK call c (F i) H K=K v H∧G (i+1)=G i:=by
   intro H K;rcases ins_pure call c (F i) hp with h1|⟨v',h1⟩
   ·have:=(hins fun v H=>some (v,H)).symm.trans (h1 _ _);cases this
   ·have:=(hins fun v H=>some (v,H)).symm.trans (h1 _ _);simp only[Option.some.injEq,Prod.mk.injEq]at this;rw[this.1];exact⟨h1 _ _,this.2⟩
  exact⟨(h1 (G i) fun _ _=>none).2,fun H _ K=>(h1 H K).1⟩
 ·left;have form:∀H K,readD (.load n a) vs H=some x→insK call c (F i) H K=cast c.kd x fun y=>K y H:=by intro H K hH;unfold insK;rw[hi];simp only[hev,optK,hH]
  have key:G (i+1)=G i∧∀(H:Heap) (K:Value→Heap→Res),cast c.kd x (fun y=>K y H)=K v H:=by
   rcases Alg.cast (ap:=apV) (d:=c.kd) (v:=x) (g:=fun x K=>K x) (fun x=>Alg.v x)with h6|⟨y,h6⟩
   ·have:=(hins fun v H=>some (v,H)).symm.trans ((form _ _ hr).trans (h6 _));cases this
   ·have:=(hins fun v H=>some (v,H)).symm.trans ((form _ _ hr).trans (h6 _));simp only[apV,Option.some.injEq,Prod.mk.injEq]at this;refine⟨this.2,fun H K=>?_⟩;rw[this.1];exact h6 fun x=>K x H
  refine⟨key.1,fun H hM K=>?_⟩;have hr3:readD (.load n a) vs H=some x:=by
   unfold readD at hr2⊢
   match vs,hr2 with
   |[.pointer (some ad)],hr2=>
    dsimp only at hr2⊢;split at hr2
    ·rename_i ha;rw[if_pos ha];cases hl:(G ops.size).ldN ad n with
     |none=>rw[hl]at hr2;cases hr2
     |some l=>rw[hl]at hr2;rw[hM.ldN hl];exact hr2
    ·rename_i ha;rw[if_neg ha];exact hM.ld1 hr2
  rw[form H K hr3];exact key.2 H K
 ·right;have form:∀H K,insK call c (F i) H K=effK e vs H fun v H=>cast c.kd v fun v=>K v H:=by intro H K;unfold insK;rw[hi];simp only[hev,optK]
  have h1:=hins fun v H=>some (v,H);rw[form]at h1;rcases effK_made (P:=P) (w0:=w0) hm h1 with ⟨v1,G1,h2,h3⟩|⟨k,o,kl,h2,h3,h4⟩
  ·have h5:=cast_some h2;simp only[Option.some.injEq,Prod.mk.injEq]at h5;exact absurd (by rw[←h5.2];exact h3) hnx
  ·have h5:=cast_some h2;simp only[Option.some.injEq,Prod.mk.injEq]at h5;refine⟨k,o,kl,vs,hev,h5.1.symm,h5.2.symm,h3,hal,by rw[hi];simp,fun H hM=>⟨fun K=>?_,(h4 H hM).2⟩⟩;rw[form,(h4 H hM).1];exact cast_place h2 H.next fun v=>K v _
theorem Plan2.s1(X:Plan2 P gl nt call ops an cl F G){i:Nat}(hi:i<ops.size):(G i).next≤(G (i+1)).next∧(∀b,b<(G i).next→(G (i+1)).get b=(G i).get b∨(G (i+1)).get b=none)∧
 ((∀b,(G i).next≤b→(G i).get b=none)→∀b,(G (i+1)).next≤b→(G (i+1)).get b=none):=by
 have hlt:i<cl.length:=by rw[X.clen];exact hi
 obtain⟨v,_,⟨h1,_⟩|⟨k,o,kl,vs,_,_,h1,_⟩⟩:=X.shape (w0:=⟨#[],default,#[],0,0⟩) (List.getElem?_eq_getElem hlt)
 ·rw[h1];exact⟨Nat.le_refl _,fun _ _=>.inl rfl,fun h=>h⟩
 ·rw[h1];refine⟨by simp[killO_next],fun b hb=>?_,fun h b hb=>?_⟩
  ·rw[Heap.get_new,killO_next,if_neg (by omega),killO_get];split
   ·exact .inr rfl
   ·exact .inl rfl
  ·simp only[Heap.next_new,killO_next]at hb;rw[Heap.get_new,killO_next,if_neg (by omega),killO_get,h b (by omega),ite_self]
theorem Plan2.nmono(X:Plan2 P gl nt call ops an cl F G):∀(d i:Nat),i+d≤ops.size→(G i).next≤(G (i+d)).next
 |0,i,_=>Nat.le_refl _
 |d+1,i,h=>Nat.le_trans (X.nmono d i (by omega)) (X.s1 (i:=i+d) (by omega)).1
theorem Plan2.nle(X:Plan2 P gl nt call ops an cl F G){i j:Nat}(h:i≤j)(hj:j≤ops.size):(G i).next≤(G j).next:=by have:=X.nmono (j-i) i (by omega);rwa[show i+(j-i)=j by omega]at this
theorem Plan2.tops(X:Plan2 P gl nt call ops an cl F G):∀(i:Nat),i≤ops.size→∀b,(G i).next≤b→(G i).get b=none
 |0,_=>X.top
 |i+1,h=>(X.s1 (i:=i) (by omega)).2.2 (X.tops i (by omega))
theorem Plan2.lt(X:Plan2 P gl nt call ops an cl F G){i b:Nat}{x:CObj}(hi:i≤ops.size)(h:(G i).get b=some x):b<(G i).next:=by
 rcases Nat.lt_or_ge b (G i).next with h1|h1
 ·exact h1
 ·rw[X.tops i hi b h1]at h;cases h
theorem Plan2.back(X:Plan2 P gl nt call ops an cl F G){b:Nat}{y:CObj}:∀(d i:Nat),i+d≤ops.size→b<(G i).next→(G (i+d)).get b=some y→(G i).get b=some y
 |0,_,_,_,h=>h
 |d+1,i,hd,hb,h=>by
  refine X.back d i (by omega) hb ?_;rcases (X.s1 (i:=i+d) (by omega)).2.1 b (Nat.lt_of_lt_of_le hb (X.nle (by omega) (by omega)))with h1|h1
  ·rw[←h1];exact h
  ·rw[show i+(d+1)=i+d+1 by omega,h1]at h;cases h
theorem Plan2.back'(X:Plan2 P gl nt call ops an cl F G){b i j:Nat}{y:CObj}(h:i≤j)(hj:j≤ops.size)(hb:b<(G i).next)(hg:(G j).get b=some y):(G i).get b=some y:=X.back (j-i) i (by omega) hb (by rwa[show i+(j-i)=j by omega])
theorem Plan2.once(X:Plan2 P gl nt call ops an cl F G){b i j:Nat}(hi:i<ops.size)(hk:Kills G i b)(hj:j≤ops.size){x:CObj}(hx:(G j).get b=some x):j≤i:=by
 rcases Nat.lt_or_ge i j with h|h
 ·obtain⟨⟨y,h1⟩,h2⟩:=hk;have hb:=X.lt (by omega) h1;have:=X.back' (i:=i+1) (j:=j) h hj (Nat.lt_of_lt_of_le hb (X.s1 hi).1) hx;rw[h2]at this;cases this
 ·exact h
theorem Plan2.uniq(X:Plan2 P gl nt call ops an cl F G){b:Nat}{x y:CObj}(hx:UB G ops.size b x)(hy:UB G ops.size b y):x=y:=by
 obtain⟨i,hi,h1⟩:=hx;obtain⟨j,hj,h2⟩:=hy;rcases Nat.le_total i j with h|h
 ·have:=X.back' h hj (X.lt hi h1) h2;rw[h1]at this;cases this;rfl
 ·have:=X.back' h hi (X.lt hj h2) h1;rw[h2]at this;cases this;rfl
theorem Plan2.died(X:Plan2 P gl nt call ops an cl F G){b:Nat}{x:CObj}:∀(d i:Nat),i+d≤ops.size→(G i).get b=some x→(G (i+d)).get b=none→∃j,j<i+d∧Kills G j b
 |0,i,_,h1,h2=>by rw[Nat.add_zero,h1]at h2;cases h2
 |d+1,i,hd,h1,h2=>by
  cases h3:(G (i+d)).get b with
  |some y=>exact⟨i+d,by omega,⟨y,h3⟩,h2⟩
  |none=>obtain⟨j,h4,h5⟩:=X.died d i (by omega) h1 h3;exact⟨j,by omega,h5⟩
theorem Plan2.keep(X:Plan2 P gl nt call ops an cl F G){t:Nat}:∀(d p:Nat),p+d≤ops.size→(∀(q:Nat) c,p≤q→q<p+d→cl[q]?=some c→c.dst≠some t)→(F (p+d)).get t=(F p).get t
 |0,p,_,_=>rfl
 |d+1,p,h,hn=>by
  have hlt:p+d<cl.length:=by rw[X.clen];omega
  have h1:=(X.ran (p+d) _ (List.getElem?_eq_getElem hlt)).other t (hn (p+d) _ (by omega) (by omega) (List.getElem?_eq_getElem hlt));exact h1.trans (X.keep d p (by omega) (fun q c h2 h3=>hn q c h2 (by omega)))
end
end
section
variable{P:Program}{w0:Start}{gl:List Nat}{nt:Nat}
theorem cOper_args{ops:Array Oper}{o:Oper}{c:COp}(hc:cOper gl nt P ops o=some (stripOp c))(hb:c.ins≠ .bad):∃os,copds gl os=some c.args:=by
 unfold cOper at hc;obtain⟨cd,ck,cg,ci,ca⟩:=c;split at hc
 ·split at hc
  ·split at hc
   ·rename_i i os hi;split at hc
    ·rename_i xs hxs;simp only[stripOp,Option.some.injEq,COp.mk.injEq]at hc;obtain⟨_,_,_,_,rfl⟩:=hc;exact⟨_,hxs⟩
    ·simp only[stripOp,badOp,Option.some.injEq,COp.mk.injEq]at hc;exact absurd hc.2.2.2.1.symm hb
   ·simp only[stripOp,badOp,Option.some.injEq,COp.mk.injEq]at hc;exact absurd hc.2.2.2.1.symm hb
  ·cases hc
 ·cases hc
theorem VRs.known{μ:Mu}:∀{a b:List Value},VRs μ a b→∀v∈a,∃x,VR μ v x
 |[],_,_,v,h=>by cases h
 |x::a,[],h,_,_=>by cases h
 |x::a,y::b,h,v,hv=>by
  rcases List.mem_cons.1 hv with rfl|hv
  ·exact⟨y,h.1⟩
  ·exact VRs.known h.2 v hv
theorem place_inv{μ:Mu}{k:Option Nat}{n:Nat}{v':Value}(h:VR μ (placeV k n) v'):∃m,μ n=some m∧∀(μ2:Mu) (nb:Nat),μ2 nb=some m→VR μ2 (placeV k nb) v':=by
 cases k with
 |none=>
  cases h with
  |ptr h=>obtain⟨q1,q2,m,q3,q4⟩:=h;exact⟨m,q3,fun μ2 nb hm=>.ptr ⟨rfl,q2,m,hm,q4⟩⟩
 |some l=>
  cases h with
  |sl hl h=>
   rcases h with ⟨q1,q2,m,q3,q4⟩|⟨q,_⟩
   ·exact⟨m,q3,fun μ2 nb hm=>.sl hl (.inl ⟨rfl,q2,m,hm,q4⟩)⟩
   ·unfold dang at q;cases q
structure Inv2(P:Program)(w0:Start)(nt:Nat)(ops:Array Oper)(an:Nat→Nat→Prop)(cl:List COp)(F:Nat→Fr)(G:Nat→Heap)(μ0:Mu)(L:Nat→Prop)(μ:Mu)(H:Heap)(a:Act)(w:World):Prop where
 rr:RR P w0 μ H w
 sz:nt≤a.tmps.size
 df:a.defers=[]
 clo:∀i,L i→∀x,an x i→L x
 nx:H.next=(G ops.size).next
 dead:∀b i,i<ops.size→L i→Kills G i b→H.get b=none
 live:∀b x,UB G ops.size b x→(∀i,i<ops.size→L i→¬Kills G i b)→H.get b=some x
 only:∀b x,H.get b=some x→UB G ops.size b x
 fr:∀(p t:Nat),p≤ops.size→(∀(q:Nat) c,q<p→cl[q]?=some c→c.dst=some t→L q)→(∀(q:Nat) c,p≤q→cl[q]?=some c→c.dst=some t→¬L q)→∀v,(F p).get t=some v→∃v',a.tmps[t]?=some v'∧VR μ v v'
 un:∀i,i<ops.size→¬L i→(G (i+1)).next≠(G i).next→μ (G i).next=none
 le:μ0.le μ
 kp:∀b,b<(G 0).next→μ0 b=none→μ b=none
 km:∀b i,i<ops.size→L i→Kills G i b→∃m,μ b=some m
section
variable{call:CallF}{ops:Array Oper}{an:Nat→Nat→Prop}{cl:List COp}{F:Nat→Fr}{G:Nat→Heap}{μ0:Mu}
theorem Inv2.fr'(X:Plan2 P gl nt call ops an cl F G){L:Nat→Prop}{μ μ':Mu}{H:Heap}{a:Act}{w:World}(I:Inv2 P w0 nt ops an cl F G μ0 L μ H a w)(hle:μ.le μ'){p:Nat}{c:COp}(hc:cl[p]?=some c)(hL:¬L p){v':Value}(hd:dstOk nt c.dst=true)(hv:∀t v,c.dst=some t→(F (p+1)).get t=some v→VR μ' v v'):∀(q t:Nat),q≤ops.size→(∀(s:Nat) c,s<q→cl[s]?=some c→c.dst=some t→(L s∨s=p))→(∀(s:Nat) c,q≤s→cl[s]?=some c→c.dst=some t→¬(L s∨s=p))→∀v,(F q).get t=some v→∃v'',(a.put c.dst v').tmps[t]?=some v''∧VR μ' v v'':=by
 intro q t hq h1 h2 v hvq;by_cases ht:c.dst=some t
 ·have hpq:p<q:=by
   rcases Nat.lt_or_ge p q with h|h
   ·exact h
   ·exact absurd (Or.inr rfl) (h2 p c h hc ht)
  have hno:∀(s:Nat) c',p+1≤s→s<p+1+(q-(p+1))→cl[s]?=some c'→c'.dst≠some t:=by
   intro s c' h3 h4 h5 h6;have hLj:L s:=by
    rcases h1 s c' (by omega) h5 h6 with h|h
    ·exact h
    ·omega
   have hcl:c.clash c'=true:=by unfold COp.clash;rw[ht];simp[h6]
   rcases X.slots p s c c' (by omega) hc h5 hcl with ⟨_,h7⟩|⟨h7,_⟩
   ·exact hL (I.clo s hLj p h7)
   ·omega
  have e:=X.keep (t:=t) (q-(p+1)) (p+1) (by omega) hno;rw[show p+1+(q-(p+1))=q by omega]at e;rw[e]at hvq;refine⟨v',?_,hv t v ht hvq⟩;rw[ht]at hd⊢;simp only[dstOk,decide_eq_true_eq]at hd;have:=I.sz;simp only[Act.put];rw[Array.getElem?_setIfInBounds,if_pos rfl,if_pos (by omega)]
 ·obtain⟨v'',h3,h4⟩:=I.fr q t hq (fun s c' h3 h4 h6=>by
    rcases h1 s c' h3 h4 h6 with h|h
    ·exact h
    ·subst h;rw[hc]at h4;cases h4;exact absurd h6 ht) (fun s c' h3 h4 h6 h7=>h2 s c' h3 h4 h6 (.inl h7)) v hvq
  refine⟨v'',?_,h4.mono hle⟩;cases hd':c.dst with
  |none=>exact h3
  |some d=>have:¬d=t:=fun e=>ht (by rw[hd',e]);simp only[Act.put];rw[Array.getElem?_setIfInBounds,if_neg this];exact h3
theorem Plan2.step(X:Plan2 P gl nt call ops an cl F G)(hcall:CallOK P w0 call)(hgl:∀g∈gl,g<w0.ng)(hlow:w0.n0≤(G 0).next){L:Nat→Prop}{μ:Mu}{H:Heap}{a:Act}{w:World}(I:Inv2 P w0 nt ops an cl F G μ0 L μ H a w){i:Nat}(hi:i<ops.size)(hL:¬L i)(hr:∀o e,ops[i]?=some o→e∈o.after→Region.binds .any e=true→L e.on){Q:Exit→Act→World→Prop}{K:Act→World→Prop}(hK:∀μ' H' a' w',Inv2 P w0 nt ops an cl F G μ0 (fun j=>L j∨j=i) μ' H' a' w'→K a' w'):wpOp P ops Q i K a w:=by
 have hlt:i<cl.length:=by rw[X.clen];exact hi
 obtain⟨c,hc⟩:∃c,cl[i]?=some c:=⟨_,List.getElem?_eq_getElem hlt⟩;obtain⟨o,ho,hop⟩:=X.op i c hc;have hanc:∀x,an x i→L x:=by
  intro x hx;obtain⟨e,h1,h2,h3⟩:=X.anc i o x ho hx;have h4:=hr o e ho h1 h2;rcases h3 with rfl|h3
  ·exact h4
  ·exact I.clo _ h4 x h3
 obtain⟨g1,g2,g3⟩:=cOper_guard hop;have hd:dstOk nt c.dst=true:=by rw[g3];exact g2
 have hF:∀t v,t∈c.looks→(F i).get t=some v→∃v',a.tmps[t]?=some v'∧VR μ v v':=by
  intro t v ht hv;refine I.fr i t (by omega) ?_ ?_ v hv
  ·intro s x hs hx hdst;have hcl:x.clash c=true:=by unfold COp.clash;rw[hdst];simp[ht]
   rcases X.slots s i x c (by omega) hx hc hcl with ⟨_,h⟩|⟨h,_⟩
   ·exact hanc s h
   ·omega
  ·intro s x hs hx hdst hLj;have hcl:x.clash c=true:=by unfold COp.clash;rw[hdst];simp[ht]
   by_cases e:s=i
   ·subst e;exact hL hLj
   ·rcases X.slots s i x c e hx hc hcl with ⟨h,_⟩|⟨_,h⟩
    ·omega
    ·exact hL (I.clo s hLj i h)
 have hFR:FR μ nt (Fr.only c.looks (F i)) a:=by
  refine⟨I.sz,I.df,fun t v hv=>?_⟩;rw[Fr.get_only]at hv;split at hv
  ·rename_i ht;exact hF t v ht hv
  ·cases hv
 have hcongr:∀H K,insK call c (Fr.only c.looks (F i)) H K=insK call c (F i) H K:=fun H K=>insK_congr (fun t ht=>by rw[Fr.get_only,if_pos (looks_arg ht)]) H K;have hw:Region.wanted o (yielded ops a.tmps)=true:=wanted_ok hF g1 (by unfold wantC;rw[X.ng i c hc]);have hsize:∀v',(a.put c.dst v').tmps.size=a.tmps.size:=by intro v';unfold Act.put;cases c.dst<;>simp
 have hdef:∀v',(a.put c.dst v').defers=a.defers:=by intro v';unfold Act.put;cases c.dst<;>rfl
 have hclo:∀j,(L j∨j=i)→∀x,an x j→(L x∨x=i):=by
  rintro j (hj|rfl) x hx
  ·exact .inl (I.clo j hj x hx)
  ·exact .inl (hanc x hx)
 unfold wpOp;rw[ho];dsimp only;rw[if_pos hw];left;obtain⟨v,hdst,⟨hG,hins⟩|⟨k,ob,kl,vs,hev,hvp,hG,hkl,hal,hbad,hef⟩⟩:=X.shape (w0:=w0) hc
 ·
  have hmore:More (G ops.size) H:=by intro b x hx;refine I.live b x ⟨ops.size,Nat.le_refl _,hx⟩ fun j hj _ hk=>?_;have:=X.once hj hk (Nat.le_refl _) hx;omega
  refine ins_ok hcall hgl hop I.rr hFR (((hcongr H _).trans (hins H hmore fun v H=>some (v,H)))) ?_;intro μ' v1 v1' H' w' e1 hVR R' X';simp only[Option.some.injEq,Prod.mk.injEq]at e1;obtain⟨rfl,rfl⟩:=e1;rw[←g3];have nokill:∀b,¬Kills G i b:=fun b ⟨⟨x,h1⟩,h2⟩=>by rw[hG,h1]at h2;cases h2
  refine hK μ' H' _ w' ⟨R',by rw[hsize];exact I.sz,by rw[hdef];exact I.df,hclo,I.nx,?_,?_,I.only,?_,?_,Mu.le_trans I.le X'.le,?_,?_⟩
  ·rintro b j hj (h|rfl) hk
   ·exact I.dead b j hj h hk
   ·exact absurd hk (nokill b)
  ·intro b x hx hn;exact I.live b x hx fun j hj h=>hn j hj (.inl h)
  ·exact I.fr' X X'.le hc hL hd (fun t x ht hx=>by rw[hdst t ht]at hx;cases hx;exact hVR)
  ·intro j hj hn hnx;have h1:=I.un j hj (fun h=>hn (.inl h)) hnx;have h2:(G j).next<(G (j+1)).next:=Nat.lt_of_le_of_ne (X.s1 hj).1 (Ne.symm hnx)
   have h3:=X.nle (i:=j+1) (j:=ops.size) hj (Nat.le_refl _);exact(X'.keep _ (by rw[I.nx];omega) h1).1
  ·intro b hb h1;have h3:=X.nle (i:=0) (j:=ops.size) (Nat.zero_le _) (Nat.le_refl _);exact(X'.keep b (by rw[I.nx];omega) (I.kp b hb h1)).1
  ·rintro b j hj (h|rfl) hk
   ·obtain⟨m,hm⟩:=I.km b j hj h hk;exact⟨m,X'.le _ _ hm⟩
   ·exact absurd hk (nokill b)
 ·
  have hnext:(G (i+1)).next=(G i).next+1:=by rw[hG];simp[killO_next]
  have hNle:(G i).next+1≤(G ops.size).next:=by rw[←hnext];exact X.nle hi (Nat.le_refl _)
  have hn0:=X.nle (i:=0) (j:=i) (Nat.zero_le _) (by omega);have hu:μ (G i).next=none:=I.un i hi hL (by omega)
  have hnb:(G (i+1)).get (G i).next=some ob:=by rw[hG,Heap.get_new,killO_next,if_pos rfl]
  have hkill:∀b,Kills G i b→kl=some b:=by
   rintro b ⟨⟨x,h1⟩,h2⟩;have hb:=X.lt (by omega) h1;rw[hG,Heap.get_new,killO_next,if_neg (by omega),killO_get]at h2;by_cases e:kl=some b
   ·exact e
   ·rw[if_neg e,h1]at h2;cases h2
  have hkilled:∀b,kl=some b→Kills G i b:=by intro b e;obtain⟨y,hy⟩:=hkl b e;have hb:=X.lt (by omega) hy;refine⟨⟨y,hy⟩,?_⟩;rw[hG,Heap.get_new,killO_next,if_neg (by omega),killO_get,if_pos e]
  have alive:∀b x,(G i).get b=some x→(∀y,(G (i+1)).get b=some y→∃z,(G ops.size).get b=some z)→H.get b=some x:=by intro b x hx hz;refine I.live b x ⟨i,by omega,hx⟩ fun j hj hLj hk=>?_;have hji:=X.once hj hk (by omega) hx;have hne:i≠j:=fun e=>hL (e▸hLj);obtain⟨⟨y,h1⟩,h2⟩:=hk;have hb:=X.lt (by omega) hx;have h3:(G (i+1)).get b=some y:=X.back' (i:=i+1) (j:=j) (by omega) (by omega) (by omega) h1;obtain⟨z,h4⟩:=hz y h3;have:=X.once hj ⟨⟨y,h1⟩,h2⟩ (Nat.le_refl _) h4;omega
  have hMV:MoreV vs (G i) H:=fun u hu2 ad l kk e x hx=>alive _ x hx fun y hy=>hal u hu2 ad l kk e y hy;obtain⟨hins,hkn⟩:=hef H hMV;have hHnb:H.get (G i).next=some ob:=by refine I.live _ ob ⟨i+1,hi,hnb⟩ fun j hj hLj hk=>?_;obtain⟨m,hm⟩:=I.km _ j hj hLj hk;rw[hu]at hm;cases hm
  have hknown:knownO μ ob:=by
   refine hkn μ w I.rr ?_;obtain⟨os,hos⟩:=cOper_args hop hbad;have hev':evs (Fr.only c.looks (F i)) c.args=some vs:=by rw[←hev];exact evs_congr fun t ht=>by rw[Fr.get_only,if_pos (looks_arg ht)]
   exact(evs_ok I.rr hFR hgl hos hev').known
  refine ins_ok hcall hgl hop I.rr hFR ((hcongr H _).trans (hins fun v H=>some (v,H))) ?_;intro μ' v1 v1' H' w' e1 hVR R' X';simp only[Option.some.injEq,Prod.mk.injEq]at e1;obtain⟨rfl,rfl⟩:=e1;rw[←g3];obtain⟨m,hm,hplace⟩:=place_inv hVR;have hle2:μ.le (μ.add (G i).next m):=Mu.le_add hu;have hH'lt:∀b,b<H.next→((killO H kl).new ob).get b=(killO H kl).get b:=fun b hb=>by rw[Heap.get_new,killO_next,if_neg (by omega)]
  have hne:kl≠some (G i).next:=fun e=>by obtain⟨y,hy⟩:=hkl _ e;have:=X.lt (by omega) hy;omega
  have R2:RR P w0 (μ.add (G i).next m) (killO H kl) w':=by
   refine I.rr.move R' X'.le hm (by rw[Heap.get_new,killO_next,if_pos rfl]) hknown (by omega) (by rw[I.nx];omega) hu (killO_next _ _) ?_ (fun b hb _=>(hH'lt b hb).symm) (fun b o1 hb h1=>?_) (fun b hb=>?_)
   ·rw[killO_get,if_neg hne];exact hHnb
   ·rw[hH'lt b hb,killO_get]at h1;split at h1
    ·cases h1
    ·exact h1
   ·rw[killO_get,I.rr.top b hb,ite_self]
  refine hK (μ.add (G i).next m) (killO H kl) _ w' ⟨R2,by rw[hsize];exact I.sz,by rw[hdef];exact I.df,hclo,by rw[killO_next];exact I.nx,?_,?_,?_,?_,?_,Mu.le_trans I.le hle2,?_,?_⟩
  ·rintro b j hj (h|rfl) hk
   ·rw[killO_get,I.dead b j hj h hk,ite_self]
   ·rw[killO_get,if_pos (hkill b hk)]
  ·intro b x hx hn;have hk:kl≠some b:=fun e=>hn i hi (.inr rfl) (hkilled b e);rw[killO_get,if_neg hk];exact I.live b x hx fun j hj h=>hn j hj (.inl h)
  ·intro b x hx;rw[killO_get]at hx;split at hx
   ·cases hx
   ·exact I.only b x hx
  ·exact I.fr' X hle2 hc hL hd (fun t x ht hx=>by rw[hdst t ht]at hx;cases hx;rw[hvp];exact hplace _ _ (Mu.add_same _ _ _))
  ·intro j hj hn hnx;have h1:=I.un j hj (fun h=>hn (.inl h)) hnx;have h2:(G j).next<(G (j+1)).next:=Nat.lt_of_le_of_ne (X.s1 hj).1 (Ne.symm hnx)
   have hji:j≠i:=fun e=>hn (.inr e);have h3:(G j).next≠(G i).next:=by
    rcases Nat.lt_or_ge j i with h|h
    ·have:=X.nle (i:=j+1) (j:=i) h (by omega);omega
    ·have:=X.nle (i:=i+1) (j:=j) (by omega) (by omega);omega
   unfold Mu.add;rw[if_neg h3];exact h1
  ·intro b hb h1;unfold Mu.add;rw[if_neg (by omega)];exact I.kp b hb h1
  ·rintro b j hj (h|rfl) hk
   ·obtain⟨m2,hm2⟩:=I.km b j hj h hk;exact⟨m2,hle2 _ _ hm2⟩
   ·have hkb:=hkill b hk;obtain⟨x,hx⟩:=hk.1;have hb:=X.lt (by omega) hx;have hHb:H.get b=some x:=alive b x hx fun y hy=>by rw[hk.2]at hy;cases hy
    cases hmb:μ b with
    |some m2=>exact⟨m2,hle2 _ _ hmb⟩
    |none=>have h1:=(X'.keep b (by rw[I.nx];omega) hmb).2;rw[hH'lt b (by rw[I.nx];omega),killO_get,if_pos hkb,hHb]at h1;cases h1
end
end
section
variable{P:Program}{w0:Start}{gl:List Nat}{nt:Nat}
theorem RR.grow{μ:Mu}{H H':Heap}{w:World}(R:RR P w0 μ H w)(hn:H.next≤H'.next)(hg:∀b,b<H.next→H'.get b=H.get b)(ht:∀b,H'.next≤b→H'.get b=none):RR P w0 μ H' w:=by
 have hin:∀b mb,μ b=some mb→b<H.next:=fun b mb hb=>by
  rcases Nat.lt_or_ge b H.next with h|h
  ·exact h
  ·rw[R.fresh b h]at hb;cases hb
 refine⟨fun b m o h1 h2=>R.obj b m o h1 (by rw[←hg b (hin b m h1)];exact h2),fun b1 b2 m1 m2 o1 o2 n1 n2 h1 h2 h3 h4=>R.inj _ _ _ _ _ _ n1 n2 h1 h2 (by rw[←hg b1 (hin b1 m1 h1)];exact h3) (by rw[←hg b2 (hin b2 m2 h2)];exact h4),fun b hb=>R.fresh b (by omega),R.blk,R.size,R.nle,R.idn,R.low,Nat.le_trans R.lown hn,R.base,fun b o hb h=>?_,ht,R.io⟩;have:=R.lown;exact R.still b o hb (by rw[←hg b (by omega)];exact h)
section
variable{call:CallF}{ops:Array Oper}{an:Nat→Nat→Prop}{cl:List COp}{F:Nat→Fr}{G:Nat→Heap}{μ0:Mu}
theorem Inv2.congr{L L':Nat→Prop}{μ:Mu}{H:Heap}{a:Act}{w:World}(h:∀i,L i↔L' i)(I:Inv2 P w0 nt ops an cl F G μ0 L μ H a w):Inv2 P w0 nt ops an cl F G μ0 L' μ H a w:=by have:L=L':=funext fun i=>propext (h i);subst this;exact I
theorem Plan2.go(X:Plan2 P gl nt call ops an cl F G)(hcall:CallOK P w0 call)(hgl:∀g∈gl,g<w0.ng)(hlow:w0.n0≤(G 0).next){Q:Exit→Act→World→Prop}(hQ:∀μ H a w,Inv2 P w0 nt ops an cl F G μ0 (fun i=>i<ops.size) μ H a w→Q .normal a w):
  ∀(fuel:Nat) (listed:Array Bool) (μ:Mu) (H:Heap) (a:Act) (w:World),listed.size=ops.size→listed.toList.count false=fuel→Inv2 P w0 nt ops an cl F G μ0 (fun i=>listed.getD i false=true) μ H a w→wpAny P .any ops Q fuel listed a w:=by
 intro fuel;induction fuel with
 |zero=>
  intro listed μ k a w hs hc I;have hall:∀i,i<ops.size→listed.getD i false=true:=by
   intro i hi;have h1:listed.toList[i]?≠some false:=fun h=>List.count_eq_zero.1 hc (List.mem_of_getElem? h);rw[Array.getD_eq_getD_getElem?,Array.getElem?_eq_getElem (by omega)];simp only[Option.getD_some];cases h:listed[i]'(by omega)with
   |true=>rfl
   |false=>exact absurd (by rw[Array.getElem?_toList,Array.getElem?_eq_getElem (by omega),h]) h1
  refine⟨?_,hQ μ k a w (I.congr fun i=>⟨fun h=>?_,hall i⟩)⟩
  ·rw[List.eq_nil_iff_forall_not_mem];intro i hi;obtain⟨h1,h2,_⟩:=mem_ready.1 hi;have h3:=hall i h1;rw[Array.getD_eq_getD_getElem?,Array.getElem?_eq_getElem (by omega)]at h2 h3;simp only[Option.getD_some]at h2 h3;rw[h2]at h3;cases h3
  ·rcases Nat.lt_or_ge i ops.size with h1|h1
   ·exact h1
   ·rw[Array.getD_eq_getD_getElem?,Array.getElem?_eq_none (by omega)]at h;cases h
 |succ fuel ih=>
  intro listed μ k a w hs hc I;refine⟨fun hnil=>?_,fun i hi=>?_⟩
  ·have hall:∀i,i<ops.size→listed.getD i false=true:=by
     intro i;induction i using Nat.strongRecOn with
     |ind i ihi=>
      intro hi;have hn:i∉Region.ready .any ops listed:=by rw[hnil];simp
      rw[mem_ready]at hn;cases h:listed.getD i false with
      |true=>rfl
      |false=>
       exfalso;refine hn ⟨hi,?_,fun o ho e he hb=>?_⟩
       ·rw[Array.getD_eq_getD_getElem?,Array.getElem?_eq_getElem (by omega)]at h⊢;exact h
       ·have:=X.after i o e ho he hb;exact ihi e.on this (by omega)
   refine hQ μ k a w (I.congr fun i=>⟨fun h=>?_,hall i⟩);rcases Nat.lt_or_ge i ops.size with h1|h1
   ·exact h1
   ·rw[Array.getD_eq_getD_getElem?,Array.getElem?_eq_none (by omega)]at h;cases h
  ·obtain⟨h1,h2,h3⟩:=mem_ready.1 hi;have hf:listed[i]?=some false:=by rw[Array.getD_eq_getD_getElem?,Array.getElem?_eq_getElem (by omega)]at h2;rw[Array.getElem?_eq_getElem (by omega)];simpa using h2
   refine X.step hcall hgl hlow I h1 (by rw[Array.getD_eq_getD_getElem?,hf];simp) (fun o e ho he hb=>h3 o ho e he hb) ?_;intro μ' k' a' w' I';refine ih _ μ' k' a' w' (by simpa using hs) ?_ (I'.congr fun j=>?_)
   ·have h4:=count_set listed.toList i (by rw[Array.getElem?_toList];exact hf);rw[Array.toList_setIfInBounds];omega
   ·rw[Array.getD_eq_getD_getElem?,Array.getD_eq_getD_getElem?,Array.getElem?_setIfInBounds];by_cases e:i=j
    ·subst e;simp[hs,h1]
    ·have e':¬j=i:=fun h=>e h.symm;simp[e,e']
open Classical in
noncomputable def everH(G:Nat→Heap)(n:Nat):Heap:=⟨.leaf,(G n).next,fun b=>if h:∃x,UB G n b x then some h.choose else none⟩
open Classical in
theorem ever_some{n b:Nat}{x:CObj}(h:(everH G n).get b=some x):UB G n b x:=by
 have h':(if h:∃x,UB G n b x then some h.choose else none)=some x:=by simpa[everH,Heap.get,Tr.get]using h
 split at h'
 ·rename_i hx;cases h';exact hx.choose_spec
 ·cases h'
open Classical in
theorem ever_of(X:Plan2 P gl nt call ops an cl F G){b:Nat}{x:CObj}(h:UB G ops.size b x):(everH G ops.size).get b=some x:=by
 have hx:∃x,UB G ops.size b x:=⟨x,h⟩;have:(everH G ops.size).get b=some hx.choose:=by
  have:(everH G ops.size).get b=(if h:∃x,UB G ops.size b x then some h.choose else none):=by simp[everH,Heap.get,Tr.get]
  rw[this,dif_pos hx]
 rw[this,X.uniq hx.choose_spec h]
theorem Plan2.done(X:Plan2 P gl nt call ops an cl F G)(hm:P.follows .mixedOrders=true)(hcall:CallOK P w0 call)(hgl:∀g∈gl,g<w0.ng){w:World}{a:Act}(R:RR P w0 μ0 (G 0) w)(hF:FR μ0 nt (F 0) a){id:Nat}{Q:Exit→Act→World→Prop}(hQ:∀μ a w,RR P w0 μ (G ops.size) w→FR μ nt (F ops.size) a→Ext μ0 (G 0) μ (G ops.size)→Q .normal a w):(Code.region id ops true).wp P Q a w:=by
 have hN:=X.nle (i:=0) (j:=ops.size) (Nat.zero_le _) (Nat.le_refl _);refine wp_region_any hm (X.go (μ0:=μ0) hcall hgl R.lown ?_ ops.size _ μ0 (everH G ops.size) a _ (by simp) (by simp) ?_)
 ·intro μ H a w I;have hsame:∀b,(G ops.size).get b=H.get b:=by
   intro b;cases hg:(G ops.size).get b with
   |some x=>refine(I.live b x ⟨ops.size,Nat.le_refl _,hg⟩ fun j hj _ hk=>?_).symm;have:=X.once hj hk (Nat.le_refl _) hg;omega
   |none=>
    cases hh:H.get b with
    |none=>rfl
    |some x=>obtain⟨i,hi,hx⟩:=I.only b x hh;obtain⟨j,hj,hk⟩:=X.died (ops.size-i) i (by omega) hx (by rw[show i+(ops.size-i)=ops.size by omega];exact hg);rw[I.dead b j (by omega) (by show j<ops.size;omega) hk]at hh;cases hh
  refine hQ μ a w (I.rr.grow (by rw[I.nx];exact Nat.le_refl _) (fun b _=>hsame b) (X.tops _ (Nat.le_refl _))) ⟨I.sz,I.df,fun t v hv=>?_⟩ ⟨I.le,?_,hN⟩
  ·refine I.fr ops.size t (Nat.le_refl _) (fun q c hq _ _=>hq) (fun q c hq hc _ _=>?_) v hv;have:=(List.getElem?_eq_some_iff.1 hc).1;rw[X.clen]at this;omega
  ·intro b hb h1;have h2:=I.kp b hb h1;refine⟨h2,?_⟩;cases hg:(G 0).get b with
   |some x=>
    cases hn:(G ops.size).get b with
    |some y=>have:=X.back' (i:=0) (j:=ops.size) (Nat.zero_le _) (Nat.le_refl _) hb hn;rw[hg]at this;exact this.symm
    |none=>obtain⟨j,hj,hk⟩:=X.died ops.size 0 (by omega) hg (by rw[Nat.zero_add];exact hn);obtain⟨m,h3⟩:=I.km b j (by omega) (by show j<ops.size;omega) hk;rw[h2]at h3;cases h3
   |none=>
    cases hn:(G ops.size).get b with
    |some y=>have:=X.back' (i:=0) (j:=ops.size) (Nat.zero_le _) (Nat.le_refl _) hb hn;rw[hg]at this;cases this
    |none=>rfl
 ·have hfalse:∀i,(Array.replicate ops.size false).getD i false=false:=by
   intro i;rw[Array.getD_eq_getD_getElem?];by_cases h:i<ops.size
   ·rw[Array.getElem?_eq_getElem (by simpa using h)];simp
   ·rw[Array.getElem?_eq_none (by simpa using h)];rfl
  have hno:∀{i:Nat} {p:Prop},(Array.replicate ops.size false).getD i false=true→p:=fun h=>by rw[hfalse]at h;cases h
  have hlow:∀b,b<(G 0).next→(everH G ops.size).get b=(G 0).get b:=by
   intro b hb;cases hg:(G 0).get b with
   |some x=>exact ever_of X ⟨0,Nat.zero_le _,hg⟩
   |none=>
    cases hh:(everH G ops.size).get b with
    |none=>rfl
    |some x=>obtain⟨i,hi,hx⟩:=ever_some hh;have:=X.back' (i:=0) (j:=i) (Nat.zero_le _) hi hb hx;rw[hg]at this;cases this
  refine⟨RR.grow (H':=everH G ops.size) (R.heap rfl) hN hlow ?_,hF.1,hF.2.1,fun i h=>hno h,rfl,fun b i _ h=>hno h,fun b x hx _=>ever_of X hx,fun b x h=>ever_some h,?_,?_,Mu.le_refl _,fun _ _ h=>h,fun b i _ h=>hno h⟩
  ·intro b hb;cases hh:(everH G ops.size).get b with
   |none=>rfl
   |some x=>
    obtain⟨i,hi,hx⟩:=ever_some hh;have h1:=X.lt hi hx;have h2:=X.nle hi (Nat.le_refl _);have h3:(G ops.size).next≤b:=hb
    omega
  ·intro p t hp h1 h2 v hv;refine hF.2.2 t v ?_;rw[←hv];have:=X.keep (t:=t) p 0 (by omega) (fun q c _ h4 h5 h6=>hno (h1 q c (by omega) h5 h6));rw[Nat.zero_add]at this;exact this.symm
  ·intro i hi _ _;exact R.fresh _ (X.nle (Nat.zero_le _) (by omega))
end
end
theorem dAll_spec{n:Nat}{p:Nat→Bool}(h:dAll n p=true):∀i,i<n→p i=true:=fun i hi=>List.all_eq_true.1 h i (List.mem_range.2 hi)
theorem filter_len(p:Nat→Bool):∀l:List Nat,(l.filter p).length+(l.filter fun i=>!p i).length=l.length
 |[]=>rfl
 |x::l=>by have:=filter_len p l;cases h:p x<;>simp[h]<;>omega
theorem filter_take(p:Nat→Bool):∀(l:List Nat) (q i:Nat),l[q]?=some i→p i=true→(l.filter p)[((l.take q).filter p).length]?=some i
 |[],q,i,h,_=>by simp at h
 |x::l,0,i,h,hp=>by simp at h;subst h;simp[hp]
 |x::l,q+1,i,h,hp=>by have:=filter_take p l q i (by simpa using h) hp;cases hx:p x<;>simp[hx,this]
section
variable{P:Program}{w0:Start}{gl:List Nat}{nt:Nat}
theorem cOpers_get{ops:Array Oper}:∀{l:List Oper} {cs:List COp},cOpers gl nt P ops l=some cs→cs.length=l.length∧∀(i:Nat) o,l[i]?=some o→cOper gl nt P ops o=some (posOp cs i)
 |[],cs,h=>by simp only[cOpers,Option.some.injEq]at h;subst h;exact⟨rfl,fun i o h=>by simp at h⟩
 |x::l,cs,h=>by
  unfold cOpers at h;split at h
  ·rename_i c cs' h1 h2;cases h;obtain⟨h3,h4⟩:=cOpers_get h2;refine⟨by simp[h3],fun i o ho=>?_⟩;cases i with
   |zero=>simp at ho;subst ho;exact h1
   |succ i=>exact h4 i o (by simpa using ho)
  ·cases h
theorem eCnt_eq{cs0:List COp}:∀{rs:List (COp×Nat×Nat)} {l:List Nat},(rs.map fun x=>stripOp x.1)=l.map (posOp cs0)→∀q,eCnt rs q=((l.take q).filter fun i=>!(posOp cs0 i).ins.still).length
 |[],[],_,q=>by simp[eCnt]
 |[],_::_,h,_=>by simp at h
 |_::_,[],h,_=>by simp at h
 |x::rs,i::l,h,0=>by simp[eCnt]
 |x::rs,i::l,h,q+1=>by
  simp only[List.map_cons,List.cons.injEq]at h;have ih:=eCnt_eq (cs0:=cs0) h.2 q;have e:(posOp cs0 i).ins.still=x.1.ins.still:=by rw[←h.1];rfl
  unfold eCnt at ih⊢;simp only[List.take_succ_cons,List.filter_cons,e];cases x.1.ins.still<;>simp[ih]
theorem read_form{call:CallF}{c:COp}{fr:Fr}{H H':Heap}{v:Value}{r:RI}(hi:c.ins=.read r)(h:∀K,insK call c fr H K=K v H'):∃vs x,evs fr c.args=some vs∧readD r vs H=some x:=by have h1:=h fun v H=>some (v,H);unfold insK at h1;rw[hi]at h1;dsimp only at h1;obtain⟨vs,h2,h3⟩:=optK_some h1;obtain⟨x,h4,_⟩:=optK_some h3;exact⟨vs,x,h2,h4⟩
theorem alive_at{vs:List Value}{H:Heap}{n:Nat}{a:Addr}{l k:Nat}(hv:Value.slice (some a) l k∈vs){x:CObj}(hx:H.get a.block=some x):(⟨.load 0 true,[.pointer (some ⟨a.block,0,none⟩)],.agg #[],n,n⟩:Rd)∈aliveRds vs H n:=by
 induction vs with
 |nil=>cases hv
 |cons v vs ih=>
  unfold aliveRds;rcases List.mem_cons.1 hv with e|h
  ·subst e;refine List.mem_append_left _ ?_;simp only[hx];exact List.mem_singleton.2 rfl
  ·exact List.mem_append_right _ (ih h)
theorem draw2_ok(hm:P.follows .mixedOrders=true)(hgl:∀g∈gl,g<w0.ng){call:CallF}(hcall:CallOK P w0 call){id:Nat}{ops:Array Oper}{al:List COp}{rs:List (COp×Nat×Nat)}{cs0:List COp}(hcs:cOpers gl nt P ops ops.toList=some cs0)(hok:drawOk2 ops.toList cs0 (ancs ops.toList [])=true)(hc:CCode.regD [] (marks (effN cs0) cs0)=.regD (al.map stripOp) (rs.map fun(c,l,h)=>(stripOp c,l,h))){μ:Mu}{H:Heap}{w:World}{fr:Fr}{a:Act}{K:Fr→Heap→Res}{r:Value×Heap}{Q:Exit→Act→World→Prop}(R:RR P w0 μ H w)(Fr0:FR μ nt fr a)(h:(runOps call al fr H fun fr H=>runD call rs fr H [H] [] K)=some r)(hQ:∀μ' fr' H' a' w',K fr' H'=some r→RR P w0 μ' H' w'→FR μ' nt fr' a'→Ext μ H μ' H'→Q .normal a' w'):(Code.region id ops true).wp P Q a w:=by
 simp only[CCode.regD.injEq]at hc;obtain⟨eA,eR⟩:=hc;have hal:al=[]:=by
  cases al with
  |nil=>rfl
  |cons x al=>simp at eA
 subst hal;have h':runD call rs fr H [H] [] K=some r:=h;obtain⟨hl0,hop0⟩:=cOpers_get hcs;have hsz:cs0.length=ops.size:=by simpa using hl0
 generalize hana:ancs ops.toList []=ana at hok;unfold drawOk2 at hok;simp only[Bool.and_eq_true,decide_eq_true_eq]at hok;obtain⟨⟨⟨⟨k1,k2⟩,k3⟩,k4⟩,k5⟩:=hok;obtain⟨F,G,hsF,rdsF,f0,g0,hran,hK,hrok,_,_,hat,hrd,hmk⟩:=runD_ran rs fr H [] [] h';have lR:rs.length=ops.size:=by have:=congrArg List.length eR;simp only[marks,List.length_map]at this;omega
 have opsl:ops.toList.length=ops.size:=by simp
 have get:∀(i:Nat) (x:COp×Nat×Nat),rs[i]?=some x→∃c0,cs0[i]?=some c0∧stripOp x.1=c0∧x.2.1=(if c0.ins.still then 0 else effN cs0+1)∧x.2.2=effN cs0:=by
  intro i x hx;have:=congrArg (fun l=>l[i]?) eR;simp only[marks,List.getElem?_map,hx,Option.map_some]at this;cases hc0:cs0[i]? with
  |none=>rw[hc0]at this;simp at this
  |some c0=>rw[hc0]at this;simp only[Option.map_some,Option.some.injEq,Prod.mk.injEq]at this;exact⟨c0,rfl,this.1.symm,this.2.1.symm,this.2.2.symm⟩
 have clget:∀(i:Nat) c,(rs.map (·.1))[i]?=some c→∃lo hi,rs[i]?=some (c,lo,hi)∧cs0[i]?=some (stripOp c)∧lo=(if c.ins.still then 0 else effN cs0+1)∧hi=effN cs0:=by
  intro i c hc;rw[List.getElem?_map]at hc;cases hx:rs[i]? with
  |none=>rw[hx]at hc;simp at hc
  |some x=>rw[hx]at hc;simp only[Option.map_some,Option.some.injEq]at hc;subst hc;obtain⟨c0,h1,h2,h3,h4⟩:=get i x hx;subst h2;exact⟨x.2.1,x.2.2,rfl,h1,h3,h4⟩
 have hcnt:eCnt rs rs.length=effN cs0:=by
  have e:∀(l:List (COp×Nat×Nat)),(l.filter fun x=>!x.1.ins.still).length=((l.map fun x=>stripOp x.1).filter fun c=>!c.ins.still).length:=by
   intro l;induction l with
   |nil=>rfl
   |cons x l ih=>have:(stripOp x.1).ins.still=x.1.ins.still:=rfl;simp only[List.map_cons,List.filter_cons,this];cases x.1.ins.still<;>simp[ih]
  unfold eCnt effN;rw[List.take_length,e]
  congr 1
  have:=congrArg (List.map Prod.fst) eR;simp only[marks,List.map_map]at this;have e2:cs0.map (Prod.fst∘fun c=>(c,(if c.ins.still then 0 else effN cs0+1),effN cs0))=cs0:=by
   conv=>rhs;rw[←List.map_id cs0]
   rfl
  rw[e2]at this;rw[this];rfl
 have hlast:hsF[effN cs0]?=some (G ops.size):=by have:=hat rs.length (Nat.le_refl _);rw[hcnt,lR]at this;simpa using this
 have made:∀(i:Nat) c,(rs.map (·.1))[i]?=some c→madeOk c=true:=by intro i c hc;obtain⟨_,_,_,h2,_⟩:=clget i c hc;have h3:madeOk (stripOp c)=true:=List.all_eq_true.1 k4 _ (List.mem_of_getElem? h2);exact h3
 have noguard:∀(i:Nat) c,(rs.map (·.1))[i]?=some c→c.guard=none:=by intro i c hc;have:=made i c hc;unfold madeOk at this;simp only[Bool.and_eq_true,Option.isNone_iff_eq_none]at this;exact this.1
 have X:Plan2 P gl nt call ops (fun x j=>anc ana x j=true) (rs.map (·.1)) F G:=by
  refine⟨by simpa using lR,?_,?_,?_,?_,noguard,?_,?_,?_⟩
  ·intro i c hc;obtain⟨_,_,h1,h2,_⟩:=clget i c hc;have hi:i<ops.size:=by have:=(List.getElem?_eq_some_iff.1 h1).1;omega
   refine⟨ops[i],Array.getElem?_eq_getElem hi,?_⟩;have h3:=hop0 i ops[i] (by rw[Array.getElem?_toList];exact Array.getElem?_eq_getElem hi);have e:posOp cs0 i=stripOp c:=by unfold posOp;rw[List.getD_eq_getElem?_getD,h2];rfl
   rw[e]at h3;exact h3
  ·intro i o e ho he hb;have:=dAll_spec k1 i (by rw[opsl];exact(Array.getElem?_eq_some_iff.1 ho).1);rw[Array.getElem?_toList,ho]at this;simp only[Array.all_eq_true']at this;have h1:=this e he;rw[hb]at h1;simpa using h1
  ·intro j o x ho hx;have:=dAll_spec k2 j (by rw[opsl];exact(Array.getElem?_eq_some_iff.1 ho).1);rw[Array.getElem?_toList,ho]at this;unfold anc at hx;have h1:=List.all_eq_true.1 this x (by simpa using hx);simp only[Array.any_eq_true']at h1;obtain⟨e,he,h2⟩:=h1;simp only[Bool.and_eq_true,Bool.or_eq_true,beq_iff_eq]at h2;exact⟨e,he,h2.1,h2.2⟩
  ·intro p q x y hpq hx hy hcl;obtain⟨_,_,_,hx0,_⟩:=clget p x hx;obtain⟨_,_,_,hy0,_⟩:=clget q y hy;have hp:=(List.getElem?_eq_some_iff.1 hx0).1;have hq:=(List.getElem?_eq_some_iff.1 hy0).1;have h1:=dAll_spec (dAll_spec k3 p (by simpa using hp)) q (by simpa using hq);have e1:(List.range cs0.length).getD p 0=p:=by rw[List.getD_eq_getElem?_getD,List.getElem?_range hp];rfl
   have e2:(List.range cs0.length).getD q 0=q:=by rw[List.getD_eq_getElem?_getD,List.getElem?_range hq];rfl
   have f1:posOp cs0 p=stripOp x:=by unfold posOp;rw[List.getD_eq_getElem?_getD,hx0];rfl
   have f2:posOp cs0 q=stripOp y:=by unfold posOp;rw[List.getD_eq_getElem?_getD,hy0];rfl
   have hcl':(stripOp x).clash (stripOp y)=true:=hcl;rw[e1,e2,f1,f2,hcl']at h1;simp only[Bool.not_true,Bool.or_false,Bool.or_eq_true,beq_iff_eq,Bool.and_eq_true,decide_eq_true_eq]at h1;rcases h1 with(h1|h1)|h1
   ·exact absurd h1 hpq
   ·exact .inl h1
   ·exact .inr h1
  ·intro i c hc;obtain⟨_,_,h1,_⟩:=clget i c hc;exact hran i _ h1
  ·intro i c hc;obtain⟨lo,hi,h1,_,hlo,hhi⟩:=clget i c hc;have hw:wantC c (F i)=some true:=by unfold wantC;rw[noguard i c hc]
   have hmd:=made i c hc;unfold madeOk at hmd;simp only[Bool.and_eq_true]at hmd;have hmd:=hmd.2;split at hmd
   ·rename_i p hi';exact .inl (.inl ⟨p,hi'⟩)
   ·rename_i hi';exact .inl (.inr hi')
   ·rename_i n ag hi';have hst:c.ins.still=true:=by rw[hi'];rfl
    rw[hst,if_pos rfl]at hlo;subst hlo hhi;obtain⟨vs,v,e1,e2,e3⟩:=hrd i c _ _ _ h1 hi' hw k5;obtain⟨H',e4,e5⟩:=rdsOk_spec hrok _ e3 (effN cs0) (Nat.zero_le _) (Nat.le_refl _);rw[hlast]at e4;cases e4;exact .inr (.inl ⟨n,ag,vs,v,hi',e1,e2,e5⟩)
   ·rename_i e hi';have hst:c.ins.still=false:=by rw[hi'];rfl
    rw[hst]at hlo;simp only[Bool.false_eq_true,if_false]at hlo;subst hlo hhi;obtain⟨e1,vs,e2,e3⟩:=hmk i c _ _ h1 (by omega) hst hw;refine .inr (.inr ⟨e,vs,hi',hmd,e2,e1,?_⟩);intro v hv ad l k ev x hx;subst ev;obtain⟨H',e4,e5⟩:=rdsOk_spec hrok _ (e3 _ (alive_at hv hx)) (effN cs0) (Nat.le_refl _) (Nat.le_refl _);rw[hlast]at e4;cases e4;unfold readD at e5;simp only[if_true]at e5;unfold Heap.ldN at e5;cases hg:(G ops.size).get ad.block with
    |some y=>exact⟨y,rfl⟩
    |none=>simp[hg]at e5
   ·cases hmd
  ·rw[g0];exact R.top
 refine X.done hm hcall hgl (a:=a) (by rw[g0];exact R) (by rw[f0];exact Fr0) ?_;intro μ' a' w' R' F' E';rw[g0]at E';rw[lR]at hK;exact hQ μ' _ _ a' w' hK R' F' E'
theorem draw_ok(hm:P.follows .mixedOrders=true)(hgl:∀g∈gl,g<w0.ng){call:CallF}(hcall:CallOK P w0 call):DrawOK P w0 gl nt call:=by
 intro id ops al rs hc μ H w fr a K r Q R Fr0 h hQ;unfold cDraw at hc;split at hc;case h_2=>cases hc
 rename_i cs0 hcs;dsimp only at hc;split at hc;case isFalse=>
  split at hc;case isFalse=>cases hc
  rename_i hok;simp only[Option.some.injEq]at hc;exact draw2_ok hm hgl hcall hcs hok hc R Fr0 h hQ
 rename_i hok;simp only[Option.some.injEq,CCode.regD.injEq]at hc;obtain⟨eA,eR⟩:=hc;obtain⟨hl0,hop0⟩:=cOpers_get hcs;have hsz:cs0.length=ops.size:=by simpa using hl0
 generalize hana:ancs ops.toList []=ana at hok eR;unfold drawOk at hok;simp only[Bool.and_eq_true,decide_eq_true_eq]at hok;obtain⟨⟨⟨⟨⟨⟨⟨⟨k1,k2⟩,k3⟩,k4⟩,k5⟩,k6⟩,k7⟩,k8⟩,k9⟩:=hok;obtain⟨FA,GA,fA0,gA0,hranA,hA⟩:=runOps_ran al fr H h;obtain⟨FB,GB,hsF,rdsF,fB0,gB0,hranB,hB,hrok,_,_,hat,hrd,_⟩:=runD_ran rs _ _ [] [] hA;have lA:al.length=(ordA cs0).length:=by simpa using (congrArg List.length eA).symm
 have lR:rs.length=(ordR cs0).length:=by simpa using (congrArg List.length eR).symm
 have lO:(ordA cs0++ordR cs0).length=ops.size:=by rw[List.length_append,←hsz];have:=filter_len (fun i=>(posOp cs0 i).ins.isAlloc) (List.range cs0.length);simpa[ordA,ordR]using this
 have getA:∀(p i:Nat),(ordA cs0)[p]?=some i→∃c,al[p]?=some c∧stripOp c=posOp cs0 i:=by
  intro p i hi;have:=congrArg (fun l=>l[p]?) eA;simp only[List.getElem?_map,hi,Option.map_some]at this;cases hx:al[p]? with
  |none=>rw[hx]at this;simp at this
  |some c=>rw[hx]at this;simp only[Option.map_some,Option.some.injEq]at this;exact⟨c,rfl,this.symm⟩
 have getR:∀(q i:Nat),(ordR cs0)[q]?=some i→∃c,rs[q]?=some (c,loOf ana (effs cs0) i,hiOf ana (effs cs0) i)∧stripOp c=posOp cs0 i:=by
  intro p i hi;have:=congrArg (fun l=>l[p]?) eR;simp only[List.getElem?_map,hi,Option.map_some]at this;cases hx:rs[p]? with
  |none=>rw[hx]at this;simp at this
  |some c=>rw[hx]at this;simp only[Option.map_some,Option.some.injEq,Prod.mk.injEq]at this;obtain⟨c,lo,hi⟩:=c;obtain⟨h1,rfl,rfl⟩:=this;exact⟨c,rfl,h1.symm⟩
 have place:∀(p i:Nat),(ordA cs0++ordR cs0)[p]?=some i→∃c,(al++rs.map (·.1))[p]?=some c∧stripOp c=posOp cs0 i:=by
  intro p i hi;rcases Nat.lt_or_ge p al.length with hp|hp
  ·rw[List.getElem?_append_left (by omega)]at hi;obtain⟨c,h1,h2⟩:=getA p i hi;exact⟨c,by rw[List.getElem?_append_left hp];exact h1,h2⟩
  ·rw[List.getElem?_append_right (by omega)]at hi;obtain⟨c,h1,h2⟩:=getR _ i hi;refine⟨c,?_,h2⟩;rw[List.getElem?_append_right hp,List.getElem?_map,lA,h1];rfl
 have back:∀(p:Nat) c i,(al++rs.map (·.1))[p]?=some c→(ordA cs0++ordR cs0)[p]?=some i→stripOp c=posOp cs0 i:=by intro p c i h1 h2;obtain⟨c',h3,h4⟩:=place p i h2;rw[h1]at h3;cases h3;exact h4
 have rng:∀i,i∈ordA cs0++ordR cs0→i<ops.size:=by
  intro i hi;rw[←hsz];rcases List.mem_append.1 hi with h|h
  ·exact List.mem_range.1 (List.mem_filter.1 h).1
  ·exact List.mem_range.1 (List.mem_filter.1 h).1
 have opsl:ops.toList.length=ops.size:=by simp
 have eR':(rs.map fun x=>stripOp x.1)=(ordR cs0).map (posOp cs0):=by have:=congrArg (List.map Prod.fst) eR;simp only[List.map_map]at this;rw[←List.map_id' ((ordR cs0).map (posOp cs0)),List.map_map];exact this.symm
 have hcnt:=eCnt_eq eR';have clash_strip:∀x y:COp,(stripOp x).clash (stripOp y)=x.clash y:=fun _ _=>rfl;have inA:∀p i,p<al.length→(ordA cs0++ordR cs0)[p]?=some i→i∈ordA cs0:=by intro p i hp hi;rw[List.getElem?_append_left (by omega)]at hi;exact List.mem_of_getElem? hi
 have inR:∀p i,al.length≤p→(ordA cs0++ordR cs0)[p]?=some i→(ordR cs0)[p-al.length]?=some i:=by intro p i hp hi;rw[List.getElem?_append_right (by omega),←lA]at hi;exact hi
 have effR:∀i,i∈effs cs0↔i∈ordR cs0∧(posOp cs0 i).ins.still=false:=by intro i;unfold effs;simp[List.mem_filter]
 have X:Plan P gl nt call ops al.length (ordA cs0++ordR cs0) (fun x j=>anc ana x j=true) (al++rs.map (·.1)) (fun p=>if p<al.length then FA p else FB (p-al.length)) (fun p=>if p<al.length then GA p else GB (p-al.length)) (fun k=>hsF.getD k H) (fun p=>eCnt rs (p-al.length)) (effs cs0):=by
  refine⟨lO,?_,?_,k3,?_,?_,?_,?_,?_,?_,?_,?_,?_,?_,?_,k7,?_,?_,?_,?_,?_,?_⟩
  ·simp[lA,lR]
  ·rw[List.length_append];omega
  ·intro i hi;have:=dAll_spec k4 i (by omega);simpa using this
  ·intro p i hi;obtain⟨c,h1,h2⟩:=place p i hi;have hlt:=rng i (List.mem_of_getElem? hi);refine⟨ops[i],c,Array.getElem?_eq_getElem hlt,h1,?_⟩;rw[h2];exact hop0 i _ (by rw[Array.getElem?_toList];exact Array.getElem?_eq_getElem hlt)
  ·intro i o e ho he hb;have:=dAll_spec k1 i (by rw[opsl];exact(Array.getElem?_eq_some_iff.1 ho).1);rw[Array.getElem?_toList,ho]at this;simp only[Array.all_eq_true']at this;have h1:=this e he;rw[hb]at h1;simpa using h1
  ·intro j o x ho hx;have:=dAll_spec k2 j (by rw[opsl];exact(Array.getElem?_eq_some_iff.1 ho).1);rw[Array.getElem?_toList,ho]at this;unfold anc at hx;have h1:=List.all_eq_true.1 this x (by simpa using hx);simp only[Array.any_eq_true']at h1;obtain⟨e,he,h2⟩:=h1;simp only[Bool.and_eq_true,Bool.or_eq_true,beq_iff_eq]at h2;exact⟨e,he,h2.1,h2.2⟩
  ·intro p q x y i j hpq hx hy hi hj hcl;have hp:=(List.getElem?_eq_some_iff.1 hi).1;have hq:=(List.getElem?_eq_some_iff.1 hj).1;have h1:=dAll_spec (dAll_spec k5 p hp) q hq;have e1:(ordA cs0++ordR cs0).getD p 0=i:=by rw[List.getD_eq_getElem?_getD,hi];rfl
   have e2:(ordA cs0++ordR cs0).getD q 0=j:=by rw[List.getD_eq_getElem?_getD,hj];rfl
   rw[e1,e2,←back p x i hx hi,←back q y j hy hj,clash_strip,hcl]at h1;simp only[Bool.not_true,Bool.or_false,Bool.or_eq_true,beq_iff_eq,Bool.and_eq_true,decide_eq_true_eq]at h1;rcases h1 with(h1|h1)|h1
   ·exact absurd h1 hpq
   ·exact .inl h1
   ·exact .inr h1
  ·intro x y i j hxy hi hj;have hy:=(List.getElem?_eq_some_iff.1 hj).1;have h1:=dAll_spec (dAll_spec k6 y hy) x hxy;have e1:(effs cs0).getD x 0=i:=by rw[List.getD_eq_getElem?_getD,hi];rfl
   have e2:(effs cs0).getD y 0=j:=by rw[List.getD_eq_getElem?_getD,hj];rfl
   rw[e1,e2]at h1;exact h1
  ·intro p c hp;try dsimp only
   rcases Nat.lt_or_ge p al.length with h1|h1
   ·rw[List.getElem?_append_left h1]at hp;have h2:=hranA p c hp;rw[if_pos h1,if_pos h1];rcases Nat.lt_or_ge (p+1) al.length with h3|h3
    ·rw[if_pos h3,if_pos h3];exact h2
    ·have e:p+1=al.length:=by omega
     rw[if_neg (by omega),if_neg (by omega),e,Nat.sub_self,fB0,gB0,←e];exact h2
   ·rw[List.getElem?_append_right h1,List.getElem?_map]at hp;rw[if_neg (by omega),if_neg (by omega),if_neg (by omega),if_neg (by omega),show p+1-al.length=p-al.length+1 by omega];cases hx:rs[p-al.length]? with
    |none=>rw[hx]at hp;simp at hp
    |some x=>rw[hx]at hp;simp only[Option.map_some,Option.some.injEq]at hp;subst hp;exact hranB _ x hx
  ·intro p c hp hcp;have hlt:p<(ordA cs0++ordR cs0).length:=by rw[List.length_append];omega
   obtain⟨i,hi⟩:∃i,(ordA cs0++ordR cs0)[p]?=some i:=⟨_,List.getElem?_eq_getElem hlt⟩;have hb:=back p c i hcp hi;have hal:(posOp cs0 i).ins.isAlloc=true:=(List.mem_filter.1 (inA p i hp hi)).2;have hlt2:i<cs0.length:=List.mem_range.1 (List.mem_filter.1 (inA p i hp hi)).1;have hmem:posOp cs0 i∈cs0:=by unfold posOp;rw[List.getD_eq_getElem?_getD,List.getElem?_eq_getElem hlt2];exact List.getElem_mem hlt2
   have hg:=List.all_eq_true.1 k9 _ hmem;rw[hal]at hg;rw[←hb]at hg hal;refine⟨by simpa[stripOp]using hg,?_⟩;have hal':c.ins.isAlloc=true:=hal;unfold CIns.isAlloc at hal';split at hal'
   ·rename_i e z he;exact⟨e,z,he⟩
   ·cases hal'
  ·intro p i hp hi he;have h1:(posOp cs0 i).ins.isAlloc=true:=(List.mem_filter.1 (inA p i hp hi)).2;have h2:(!(posOp cs0 i).ins.isAlloc)=true:=(List.mem_filter.1 ((effR i).1 he).1).2;rw[h1]at h2;cases h2
  ·intro p c i hp hcp hi;have hb:=back p c i hcp hi;have hR:=List.mem_of_getElem? (inR p i hp hi);rw[effR,←hb];exact⟨fun h=>⟨hR,h⟩,fun h=>h.2⟩
  ·intro i hi;exact List.mem_append_right _ ((effR i).1 hi).1
  ·intro p i hp hi he;try dsimp only
   rw[hcnt];have h1:=(effR i).1 he;exact filter_take _ _ _ i (inR p i hp hi) (by simp[h1.2])
  ·intro p hp hp2;try dsimp only
   have hle:p-al.length≤rs.length:=by rw[List.length_append]at hp2;omega
   have h1:=hat (p-al.length) hle;rw[if_neg (by omega),List.getD_eq_getElem?_getD];simp only[List.length_nil,Nat.zero_add]at h1;rw[h1];rfl
  ·intro p i hp hi he;try dsimp only
   rw[hcnt,hcnt,show p+1-al.length=p-al.length+1 by omega];have h1:=inR p i hp hi;have h2:=(effR i).1 he;rw[List.take_add_one,h1];simp[h2.2]
  ·try dsimp only
   rw[Nat.sub_self];simp[eCnt]
  ·try dsimp only
   rw[hcnt,List.length_append,lA,Nat.add_sub_cancel_left,List.take_length];rfl
  ·intro p c i ri hp hcp hi hins hw;try dsimp only at hw⊢
   rw[if_neg (by omega)]at hw⊢;rw[if_neg (by omega)];have hq:=inR p i hp hi;obtain⟨c',h1,h2⟩:=getR _ i hq;have hcc:c'=c:=by rw[List.getElem?_append_right hp,List.getElem?_map,h1]at hcp;simpa using hcp
   subst hcc;have hran:=hranB _ _ h1;dsimp only at hran;obtain⟨vs,x,hev,hrdx⟩:∃vs x,evs (FB (p-al.length)) c'.args=some vs∧readD ri vs (GB (p-al.length))=some x:=by
    rcases hran.how with ⟨v,_,h3,_⟩|⟨h3,_⟩
    ·exact read_form hins h3
    ·rw[hw]at h3;cases h3
   refine⟨vs,x,hev,hrdx,?_⟩;intro k hk hlo hhi;have hqlt:p-al.length<(ordR cs0).length:=(List.getElem?_eq_some_iff.1 hq).1;have ht:=dAll_spec k8 _ hqlt;have e1:(ordR cs0).getD (p-al.length) 0=i:=by rw[List.getD_eq_getElem?_getD,hq];rfl
   simp only[e1,Bool.and_eq_true,decide_eq_true_eq,Bool.or_eq_true,beq_iff_eq]at ht;obtain⟨⟨⟨⟨t1,t2⟩,t3⟩,t4⟩,t5⟩:=ht;have hlok:loOf ana (effs cs0) i≤k:=by
    rcases Nat.eq_zero_or_pos (loOf ana (effs cs0) i)with h0|h0
    ·omega
    ·have h3:=dAll_spec t4 (loOf ana (effs cs0) i-1) (by omega);have h4:loOf ana (effs cs0) i-1<(effs cs0).length:=by omega
     have:=hlo _ _ (List.getElem?_eq_getElem h4) (by
      rw[List.getD_eq_getElem?_getD,List.getElem?_eq_getElem h4]at h3;exact h3)
     omega
   have hkhi:k≤hiOf ana (effs cs0) i:=by
    rcases t5 with t5|t5
    ·omega
    ·rcases Nat.lt_or_ge (hiOf ana (effs cs0) i) (effs cs0).length with h4|h4
     ·exact hhi _ _ (List.getElem?_eq_getElem h4) (by
       rw[List.getD_eq_getElem?_getD,List.getElem?_eq_getElem h4]at t5;exact t5)
     ·omega
   rcases Nat.lt_or_ge (loOf ana (effs cs0) i) (hiOf ana (effs cs0) i)with hlt|hge
   ·obtain⟨vs',v',h3,h4,h5⟩:=hrd _ _ _ _ ri h1 hins hw hlt;rw[hev]at h3;cases h3;rw[hrdx]at h4;cases h4;obtain⟨H',h6,h7⟩:=rdsOk_spec hrok _ h5 k hlok hkhi;rw[List.getD_eq_getElem?_getD,h6];exact h7
   ·have hk2:k=eCnt rs (p-al.length):=by
     rw[hcnt];unfold eAt at t1 t2;omega
    have h6:=hat (p-al.length) (by omega);simp only[List.length_nil,Nat.zero_add]at h6;rw[←hk2]at h6;rw[List.getD_eq_getElem?_getD,h6];exact hrdx
 have eF0:(if 0<al.length then FA 0 else FB (0-al.length))=fr:=by
  split
  ·exact fA0
  ·have:al.length=0:=by omega
   rw[this,Nat.sub_zero,fB0,this];exact fA0
 have eG0:(if 0<al.length then GA 0 else GB (0-al.length))=H:=by
  split
  ·exact gA0
  ·have:al.length=0:=by omega
   rw[this,Nat.sub_zero,gB0,this];exact gA0
 have eN:(ordA cs0++ordR cs0).length-al.length=rs.length:=by rw[List.length_append];omega
 refine X.done hm hcall hgl (a:=a) (by rw[eG0];exact R) (by rw[eF0];exact Fr0) ?_;intro μ' a' w' R' F' E';rw[eG0]at E';try dsimp only at R' F' E'
 rw[if_neg (by rw[List.length_append];omega),eN]at R' F' E';exact hQ μ' _ _ a' w' hB R' F' E'
end
theorem stripOp_ins{c:COp}(h:c.kd=strip0):stripOp c=c:=by obtain⟨a,b,c,d,e⟩:=c;simp only at h;subst h;rfl
section
variable{P:Program}{gl:List Nat}{nt:Nat}
theorem cOper_kd{ops:Array Oper}{o:Oper}{c:COp}(h:cOper gl nt P ops o=some c):c.kd=strip0:=by
 unfold cOper at h
 repeat' split at h
 all_goals first|(cases h;done)|(simp only[Option.some.injEq]at h;subst h;rfl)
theorem cOpers_kd{ops:Array Oper}:∀{l:List Oper} {cs:List COp},cOpers gl nt P ops l=some cs→∀c∈cs,c.kd=strip0
 |[],cs,h=>by simp only[cOpers,Option.some.injEq]at h;subst h;simp
 |o::l,cs,h=>by
  unfold cOpers at h;split at h
  ·rename_i c cs' h1 h2;cases h;intro x hx;rcases List.mem_cons.1 hx with rfl|hx
   ·exact cOper_kd h1
   ·exact cOpers_kd h2 x hx
  ·cases h
theorem posOp_kd{cs:List COp}(h:∀c∈cs,c.kd=strip0)(i:Nat):(posOp cs i).kd=strip0:=by
 unfold posOp;rw[List.getD_eq_getElem?_getD];cases hx:cs[i]? with
 |none=>rfl
 |some c=>exact h c (List.mem_of_getElem? hx)
theorem compile_strip:∀{code:Code} {c:CCode},compile gl nt P code=some c→strip c=c:=by
 intro code;induction code with
 |seq a b iha ihb=>
  intro c h;simp only[compile]at h;split at h
  ·rename_i x y h1 h2;cases h;simp only[strip,iha h1,ihb h2]
  ·cases h
 |region id ops draw=>
  intro c h;rcases region_form h with ⟨_,h1,_⟩|⟨_,cs,h1,rfl⟩|rfl
  ·unfold cDraw at h1;split at h1
   ·rename_i cs hcs;dsimp only at h1;split at h1
    ·cases h1;have hk:=cOpers_kd hcs;simp only[strip,List.map_map]
     congr 1
     ·exact List.map_congr_left fun i _=>stripOp_ins (posOp_kd hk i)
     ·refine List.map_congr_left fun i _=>?_;simp only[Function.comp];rw[stripOp_ins (posOp_kd hk i)]
    ·split at h1
     ·cases h1;have hk:=cOpers_kd hcs;simp only[strip,marks,List.map_map,List.map_nil]
      congr 1
      refine List.map_congr_left fun c hc=>?_;simp only[Function.comp];rw[stripOp_ins (hk c hc)]
     ·cases h1
   ·cases h1
  ·have hk:=cOpers_kd h1;simp only[strip]
   congr 1
   conv=>rhs;rw[←List.map_id cs]
   exact List.map_congr_left fun c hc=>stripOp_ins (hk c hc)
  ·rfl
 |cond o a b iha ihb=>
  intro c h;simp only[compile]at h;split at h
  ·rename_i x y z h0 h1 h2;cases h;simp only[strip,iha h1,ihb h2]
  ·cases h
 |block id a ih=>
  intro c h;simp only[compile]at h;split at h
  ·rename_i x h1;cases h;simp only[strip,ih h1]
  ·cases h
 |loop a ih=>
  intro c h;simp only[compile]at h;split at h
  ·rename_i x h1;cases h;simp only[strip,ih h1]
  ·cases h
 |_=>intro c h;simp only[compile,Option.some.injEq]at h;subst h;rfl
end
def autoFn(gl:List Nat)(P:Program)(f:Nat):Option CFunc:=match P.funcs[f]? with
 |some fn=>match fn.body with
  |some body=>if(fn.name== "runtime.NumGoroutine")=true then none else match compile gl fn.ntmps P body,cRess P fn.results.toList with
   |some c,some rs=>some ⟨c,rs⟩
   |_,_=>none
  |none=>none
 |none=>none
theorem autoFn_ok{gl:List Nat}{P:Program}{f:Nat}{c:CFunc}(h:autoFn gl P f=some c):cFunc gl P f c:=by
 unfold autoFn at h;split at h
 ·rename_i fn h1;split at h
  ·rename_i body h2;split at h
   ·cases h
   ·rename_i hn;split at h
    ·rename_i c' rs h3 h4;cases h;exact⟨fn,body,h1,h2,by rw[compile_strip h3];exact h3,h4,by simpa using hn⟩
    ·cases h
  ·cases h
 ·cases h
def heap0(n0:Nat)(base:Nat→Option CObj):Heap:=⟨.leaf,n0,base⟩
def start(n0:Nat)(w:World):Start:=⟨w.heap,w.os,w.output,n0,0⟩
theorem RR.bare(P:Program)(w:World):RR P (start 0 w) (fun _=>none) (heap0 0 fun _=>none) w:=by
 refine⟨?_,?_,fun _ _=>rfl,?_,Nat.le_refl _,Nat.zero_le _,?_,?_,Nat.zero_le _,fun _ _=>rfl,?_,(fun b _=>by simp[Heap.get,heap0,Tr.get]),rfl,rfl⟩
 ·intro b m o h;cases h
 ·intro b1 b2 m1 m2 o1 o2 _ _ h;cases h
 ·intro b m h;cases h
 ·intro b h;exact absurd h (Nat.not_lt_zero _)
 ·intro b m h;cases h
 ·intro b o h;exact absurd h (Nat.not_lt_zero _)
theorem RR.later{P:Program}{w0:Start}{μ:Mu}{H:Heap}{w w':World}(R:RR P w0 μ H w)(hs:w.heap.size≤w'.heap.size)(hb:∀b,b<w.heap.size→w'.heap[b]?=w.heap[b]?)(hio:w'.os=w.os∧w'.output=w.output):RR P w0 μ H w':=⟨fun b m o h1 h2=>let ⟨o',h3,h4⟩:=R.obj b m o h1 h2;⟨o',by rw[hb _ (R.blk _ _ h1)];exact h3,h4⟩,R.inj,R.fresh,fun b m h=>Nat.lt_of_lt_of_le (R.blk b m h) hs,Nat.le_trans R.size hs,R.nle,R.idn,R.low,R.lown,
 fun b h=>(hb b (Nat.lt_of_lt_of_le h R.size)).trans (R.base b h),R.still,R.top,⟨hio.1.trans R.io.1,hio.2.trans R.io.2⟩⟩
theorem auto_ok{P:Program}(hm:P.follows .mixedOrders=true)(w:World):ProgOK P (start 0 w) [] ⟨autoFn [] P,fun _=>none⟩:=⟨fun g h=>absurd h (List.not_mem_nil),fun _ _ h=>autoFn_ok h,fun _ _ h=>(by cases h),fun _ hc _=>draw_ok hm (fun g h=>absurd h (List.not_mem_nil)) hc⟩
def sure(f:Nat):Nat→List Value→Heap→Res:=fun g vs H=>if g=f then(match vs with
 |[]=>some (.bool true,H)
 |_=>none)else none
theorem sure_ok{P:Program}{w0:Start}(hm:P.follows .mixedOrders=true){f N d:Nat}{H1:Heap}(hev:callD ⟨autoFn [] P,fun _=>none⟩ N d f [] (heap0 0 fun _=>none)=some (.bool true,H1)):CallOK P w0 (sure f):=by
 intro g vs vs' H v H' μ w h R hvs o a next Q hn
 unfold sure at h;split at h
 ·rename_i e;subst e
  match vs,hvs,h with
  |[],hvs,h=>
   simp only[Option.some.injEq,Prod.mk.injEq]at h;obtain⟨rfl,rfl⟩:=h
   match vs',hvs with
   |[],_=>
    refine callD_ok (auto_ok hm w) d g [] [] _ _ H1 _ w hev (RR.bare P w) trivial o a next Q ?_
    intro v' μ' w' hv hR hE;rw[hv.bool_inv];exact hn _ μ w' (.bool true) (R.later hR.size (fun b h=>hR.base b h) hR.io) (Ext.refl _ _)
  |_::_,_,h=>cases h
 ·cases h
open Go.RowKit Go.ChangeShapes Go.WideShapes
section
variable{H:Type}{enc:TypeId×Value→H}{P:Program}
theorem sameAt_of_block{W W':World}{p:MemPlace}(h:W'.heap[p.block]?=W.heap[p.block]?):W.sameAt W' p:=by
 cases p with
 |cell b o=>exact World.cell?_of_block (w:=W) h
 |map b=>exact h
theorem trodAll_stays(hl:laidOutB P=true){W W':World}(hb:∀b,b<W.heap.size→W'.heap[b]?=W.heap[b]?){sp:Nat→Bool}:∀{ts:List TypeId} {vs:List Value} {ds:List (DataW H)} {ps:List MemPlace},
  (∀t∈ts,P.readableRec t=true∧t<P.types.size)→DataW.TrodAll enc P W 0 (fun _=>true) true ts vs ds ps→(∀p∈ps,p.block<W.heap.size∧sp p.block=true)→DataW.TrodAll enc P W' 0 sp true ts vs ds ps
 |[],[],[],ps,_,h,_=>h
 |t::ts,v::vs,d::ds,ps,hr,h,hp=>by
  obtain⟨p,q,h1,h2,rfl⟩:=h;exact⟨p,q,WideElems.Trod_stays hl (hr t (by simp)).1 (hr t (by simp)).2 h1 (fun x hx=>sameAt_of_block (hb _ (hp x (List.mem_append_left _ hx)).1)) (fun x hx=>(hp x (List.mem_append_left _ hx)).2),trodAll_stays hl hb (fun t ht=>hr t (List.mem_cons_of_mem _ ht)) h2 (fun x hx=>hp x (List.mem_append_right _ hx)),rfl⟩
theorem law_post(hl:laidOutB P=true){f:Func}{s:ChangeSpec}{apart fresh handsOn again:Bool}{W W':World}{args:Array Value}{ds gs:List (DataW H)}{before:List MemPlace}{tb:TypeId}(hW:DataW.Whole enc P f.params.toList s.vars apart W args.toList ds gs before)(hv:s.vars=[])(hfn:s.fn H (ds++gs)={results:=[.lit (.bool true)],args:=ds})(hpar:∀t∈f.params.toList,P.readableRec t=true∧t<P.types.size)(hres:f.resultTypes= #[tb])(hbool:P.underlying tb=some .bool)(hb:∀b,b<W.heap.size→W'.heap[b]?=W.heap[b]?)(hos:W'.os=W.os)(hout:W'.output=W.output):s.post enc P f apart fresh handsOn again W args (.bool true) W':=by
 have hlt:=hW.lt;have hW0:=hW;obtain⟨pa,pv,hA,hV,rfl,hz,hn⟩:=hW;rw[hv]at hV;obtain⟨rfl,rfl⟩:=trodVars_none hV;have hargs:∀sp:Nat→Bool,(∀p∈pa++[],sp p.block=true)→DataW.TrodAll enc P W' 0 sp true f.params.toList args.toList (s.fn H (ds++[])).args pa:=fun sp hsp=>by rw[hfn];exact trodAll_stays hl hb hpar hA (fun p hp=>⟨hlt p (by simpa using hp),hsp p (by simpa using hp)⟩)
 have hr1:∀(b:Nat) (sp:Nat→Bool) (hd:Bool),DataW.TrodAll enc P W' b sp hd f.resultTypes.toList ((Value.bool true).resultList f.resultTypes.size) (s.fn H (ds++[])).results []:=by intro b sp hd;rw[hfn,hres];exact trodAll_cons_mk (shut_bool hbool _) trodAll_mk0
 have hold:∀p∈pa++[],(fun b=>decide (b<W.heap.size)) p.block=true:=fun p hp=>by simpa using hlt p hp
 have hk:W.keptBut W' (fun _=>False):=by refine⟨hos,hout,fun i hi=>?_⟩;rw[hb i hi];split<;>simp_all
 have hvars:∀sp:Nat→Bool,DataW.TrodVars enc P W' sp s.vars (s.fn H (ds++[])).vars []:=by intro sp;rw[hv,hfn];rfl
 refine⟨ds,[],pa++[],[],pa,[],hW0,hr1 _ _ _,hargs _ hold,hvars _,World.keptBut_mono (fun p hp=>hp.elim) hk,fun _=>?_⟩;refine⟨ok_one hres rfl (okWide_bool_mk hbool _),_,_,([]++pa)++[],⟨[]++pa,[],trodAll_append (hargs _ (fun _ _=>rfl)) (hr1 _ _ _),hvars _,rfl,?_,?_⟩,?_⟩
 ·intro b off hp;rw[World.frozen?_of_block (w:=W) (hb b (hlt (.cell b off) (by simpa using hp)))];exact hz b off (by simpa using hp)
 ·intro ha;simpa using hn ha
 ·intro p hp _;simpa using hp
end
structure Win where
 blk:Nat
 off:Nat
 cells:List Value
 elem:TypeId
def winMB(P:Program)(w:World)(x:Win):MB:=⟨x.blk,x.off,x.cells.length,(match w.heap[x.blk]? with
 |some (.cells c _ _)=>c.size
 |_=>0),P.cellsOf x.elem,false⟩
def muW(P:Program)(w:World)(ws:List Win):Mu:=fun b=>(ws[b]?).map (winMB P w)
def heapW(ws:List Win):Heap:=⟨.leaf,ws.length,fun b=>(ws[b]?).map fun x=>.cells x.cells x.elem false x.cells.length true⟩
def WinOK(_P:Program)(w:World)(μ:Mu)(x:Win):Prop:=∃c fr,w.heap[x.blk]?=some (.cells c x.elem fr)∧x.off+x.cells.length≤c.size∧∀(i:Nat) v,x.cells[i]?=some v→one v=true∧∃v',c[i+x.off]?=some v'∧VR μ v v'
theorem RR.wins{P:Program}{w:World}{ws:List Win}(h:∀x∈ws,WinOK P w (muW P w ws) x):RR P (start ws.length w) (muW P w ws) (heapW ws) w:=by
 have hmu:∀b m,muW P w ws b=some m→∃x,ws[b]?=some x∧m=winMB P w x∧x∈ws∧b<ws.length:=by intro b m hm;unfold muW at hm;obtain⟨x,h1,h2⟩:=Option.map_eq_some_iff.1 hm;exact⟨x,h1,h2.symm,List.mem_of_getElem? h1,(List.getElem?_eq_some_iff.1 h1).1⟩
 have hget:∀b,(heapW ws).get b=(ws[b]?).map fun x=>.cells x.cells x.elem false x.cells.length true:=by intro b;simp[Heap.get,heapW,Tr.get]
 have hlt:∀x∈ws,x.blk<w.heap.size:=by intro x hx;obtain⟨c,fr,h1,_⟩:=h x hx;exact(Array.getElem?_eq_some_iff.1 h1).1
 refine⟨?_,?_,?_,?_,Nat.le_refl _,Nat.zero_le _,?_,?_,Nat.le_refl _,fun _ _=>rfl,?_,(fun b hb=>by rw[hget,List.getElem?_eq_none hb];rfl),rfl,rfl⟩
 ·intro b m o h1 h2;obtain⟨x,h3,rfl,h4,_⟩:=hmu b m h1;rw[hget,h3]at h2;simp only[Option.map_some,Option.some.injEq]at h2;subst h2;obtain⟨c,fr,g1,g2,g3⟩:=h x h4;refine⟨_,g1,rfl,⟨rfl,Nat.le_refl _⟩,rfl,rfl,?_,?_,fun _ h=>(by cases h),g3,?_,fun h=>by cases h⟩
  ·simp only[winMB,g1]
  ·simp only[winMB,g1];omega
  ·intro j _ j2 j3 _;have:=j3 rfl;simp only[winMB]at j2 this;omega
 ·intro b1 b2 m1 m2 o1 o2 h1 _ h3;obtain⟨_,_,_,_,h4⟩:=hmu b1 m1 h3;exact absurd h1 (by show¬ws.length≤b1;omega)
 ·intro b hb;unfold muW;rw[List.getElem?_eq_none hb];rfl
 ·intro b m h1;obtain⟨x,_,rfl,h4,_⟩:=hmu b m h1;exact hlt x h4
 ·intro b hb;exact absurd hb (Nat.not_lt_zero _)
 ·intro b m h1;obtain⟨x,_,rfl,h4,h5⟩:=hmu b m h1;exact .inl ⟨h5,hlt x h4⟩
 ·intro b o hb h1;rw[hget]at h1;obtain⟨x,_,h2⟩:=Option.map_eq_some_iff.1 h1;exact⟨_,_,h2.symm⟩
theorem VR.win{P:Program}{w:World}{ws:List Win}{b:Nat}{x:Win}(hx:ws[b]?=some x){n c:Nat}(hn:n≤c):VR (muW P w ws) (.slice (some ⟨b,0,none⟩) n c) (.slice (some ⟨x.blk,x.off,none⟩) n c):=by refine .sl hn (.inl ⟨rfl,rfl,winMB P w x,by unfold muW;rw[hx];rfl,rfl,.inl ⟨?_,rfl⟩⟩);simp[winMB]
theorem callD_calls{P:Program}{w0:Start}{gl:List Nat}{C:CProg}{N d f:Nat}(hC:ProgOK P w0 gl C){fn:Func}{body:Code}(hf:P.funcs[f]?=some fn)(hb:fn.body=some body)(hname:(fn.name== "runtime.NumGoroutine")=false){vs vs':List Value}{H H':Heap}{v:Value}{μ:Mu}{w:World}(h:callD C N d f vs H=some (v,H'))(R:RR P w0 μ H w)(hvs:VRs μ vs vs'):
  Calls P f vs'.toArray w fun e w'=>∃v' μ',e=.returned v'∧VR μ' v v'∧RR P w0 μ' H' w':=by
 have key:=callD_ok hC d f vs vs' H v H' μ w h R hvs ⟨some 0,.move (.tmp 0),0,"",#[],none⟩ {tmps:= #[undef],defers:=[]} (fun a w'=>∃v' μ',a.tmps[0]?=some v'∧VR μ' v v'∧RR P w0 μ' H' w') (fun _ _ _=>False) (fun v' μ' w' h1 h2 _=>⟨v',μ',by simp[Act.put],h1,h2⟩);rw[run_enter hf hname hb,Oper.upon_enter]at key;refine key.mono fun e w' he=>?_;cases e with
 |returned x=>
  obtain⟨v',μ',h1,h2,h3⟩:=he;have:x=v':=by simpa[Act.put]using h1
  subst this;exact⟨_,μ',rfl,h2,h3⟩
 |panicked ch=>exact he.elim
 |outgrown=>obtain⟨_,_,h⟩:=he;exact h.elim
def kind0(P:Program)(t:TypeId):Kd0:=match P.underlying t with
 |some (.int k)=>.int k
 |some .bool=>.bool
 |some .string=>.str
 |some (.pointer _)=>.ptr
 |some (.slice _)=>.sl
 |some (.map _ _)=>.map
 |some (.struct _)=>.agg
 |some (.array _ _)=>.agg
 |_=>.any
def kindOf(P:Program)(t:TypeId):Kd:=match P.underlying t with
 |some (.tuple ts)=>.tup (ts.toList.map (kind0 P))
 |_=>.one (kind0 P t)
def kdd(P:Program)(ops:List Oper)(cs:List COp):List COp:=(ops.zip cs).map fun(o,c)=>match o.dst with
 |some _=>if o.type=0 then c else {c with kd:=kindOf P o.type}
 |none=>c
def compileK(gl:List Nat)(nt:Nat)(P:Program):Code→Option CCode
 | .seq a b=>match compileK gl nt P a,compileK gl nt P b with
   |some x,some y=>some (.seq x y)
   |_,_=>none
 | .region _ ops draw=>match cOpers gl nt P ops ops.toList with
   |some cs=>
    let ks:=kdd P ops.toList cs
    if draw then(let an:=ancs ops.toList []
     if drawOk ops.toList cs an then some (.regD ((ordA cs).map (posOp ks)) ((ordR cs).map fun i=>(posOp ks i,loOf an (effs cs) i,hiOf an (effs cs) i)))
     else if drawOk2 ops.toList cs an then some (.regD [] (marks (effN cs) ks))
     else some .bad)
    else some (.reg ks)
   |none=>some .bad
 | .cond c a b=>match copd gl c,compileK gl nt P a,compileK gl nt P b with
   |some c,some x,some y=>some (.cond c x y)
   |_,_,_=>none
 | .block id c=>match compileK gl nt P c with
   |some x=>some (.block id x)
   |none=>none
 | .loop c=>match compileK gl nt P c with
   |some x=>some (.loop x)
   |none=>none
 | .skip=>some .skip
 | .exit id=>some (.exit id)
 | .ret=>some .ret
 |_=>some .bad
section
variable{P:Program}{gl:List Nat}{nt:Nat}
theorem kdd_strip:∀{ops:List Oper} {cs:List COp},cs.length=ops.length→(∀c∈cs,c.kd=strip0)→(kdd P ops cs).map stripOp=cs
 |[],[],_,_=>rfl
 |[],_::_,h,_=>by simp at h
 |_::_,[],h,_=>by simp at h
 |o::ops,c::cs,h,hk=>by
  have ih:=kdd_strip (ops:=ops) (cs:=cs) (by simpa using h) (fun x hx=>hk x (List.mem_cons_of_mem _ hx));unfold kdd at ih⊢;simp only[List.zip_cons_cons,List.map_cons]
  congr 1
  have hc:=hk c List.mem_cons_self;cases o.dst with
  |none=>exact stripOp_ins hc
  |some d=>
   obtain⟨a1,a2,a3,a4,a5⟩:=c;simp only at hc;subst hc;dsimp only;by_cases ht:o.type=0
   ·rw[if_pos ht];rfl
   ·rw[if_neg ht];rfl
theorem posOp_strip{ks cs:List COp}(h:ks.map stripOp=cs)(i:Nat):stripOp (posOp ks i)=posOp cs i:=by subst h;unfold posOp;rw[List.getD_eq_getElem?_getD,List.getD_eq_getElem?_getD,List.getElem?_map];cases ks[i]?<;>rfl
theorem compileK_ok:∀{code:Code} {c:CCode},compileK gl nt P code=some c→compile gl nt P code=some (strip c):=by
 intro code;induction code with
 |seq a b iha ihb=>
  intro c h;simp only[compileK]at h;split at h
  ·rename_i x y h1 h2;cases h;simp only[compile,iha h1,ihb h2,strip]
  ·cases h
 |region id ops draw=>
  intro c h;simp only[compileK]at h;split at h
  ·rename_i cs hcs;have hs:=kdd_strip (P:=P) (ops:=ops.toList) (cOpers_get hcs).1 (cOpers_kd hcs);cases draw with
   |true=>
    simp only[if_true]at h;split at h
    ·rename_i hok;cases h;simp only[compile,if_true,cDraw,hcs,hok,strip,List.map_map,Option.getD_some]
     congr 2
     ·exact(List.map_congr_left fun i _=>(posOp_strip hs i).symm)
     ·refine List.map_congr_left fun i _=>?_;simp only[Function.comp,posOp_strip hs i]
    ·rename_i hok;split at h
     ·rename_i hok2;cases h;have:cDraw gl nt P ops=some (.regD [] (marks (effN cs) cs)):=by unfold cDraw;rw[hcs];simp only;rw[if_neg hok,if_pos hok2]
      simp only[compile,if_true,this,strip,Option.getD_some,List.map_nil]
      congr 2
      simp only[marks,List.map_map];generalize effN cs=n;conv=>lhs;rw[←hs]
      rw[List.map_map];rfl
     ·rename_i hok2;cases h;have:cDraw gl nt P ops=none:=by unfold cDraw;rw[hcs];simp only;rw[if_neg hok,if_neg hok2]
      simp only[compile,if_true,this,strip,Option.getD_none]
   |false=>simp only[Bool.false_eq_true,if_false,Option.some.injEq]at h;subst h;simp only[compile,Bool.false_eq_true,if_false,hcs,strip,hs]
  ·rename_i hcs;cases h;cases draw with
   |true=>
    have:cDraw gl nt P ops=none:=by unfold cDraw;rw[hcs]
    simp only[compile,if_true,this,strip,Option.getD_none]
   |false=>simp only[compile,Bool.false_eq_true,if_false,hcs,strip]
 |cond o a b iha ihb=>
  intro c h;simp only[compileK]at h;split at h
  ·rename_i x y z h0 h1 h2;cases h;simp only[compile,h0,iha h1,ihb h2,strip]
  ·cases h
 |block id a ih=>
  intro c h;simp only[compileK]at h;split at h
  ·rename_i x h1;cases h;simp only[compile,ih h1,strip]
  ·cases h
 |loop a ih=>
  intro c h;simp only[compileK]at h;split at h
  ·rename_i x h1;cases h;simp only[compile,ih h1,strip]
  ·cases h
 |_=>intro c h;simp only[compileK,Option.some.injEq]at h;subst h;rfl
end
def autoK(gl:List Nat)(P:Program)(f:Nat):Option CFunc:=match P.funcs[f]? with
 |some fn=>match fn.body with
  |some body=>if(fn.name== "runtime.NumGoroutine")=true then none else match compileK gl fn.ntmps P body,cRess P fn.results.toList with
   |some c,some rs=>some ⟨c,rs⟩
   |_,_=>none
  |none=>none
 |none=>none
theorem autoK_ok{gl:List Nat}{P:Program}{f:Nat}{c:CFunc}(h:autoK gl P f=some c):cFunc gl P f c:=by
 unfold autoK at h;split at h
 ·rename_i fn h1;split at h
  ·rename_i body h2;split at h
   ·cases h
   ·rename_i hn;split at h
    ·rename_i c' rs h3 h4;cases h;exact⟨fn,body,h1,h2,compileK_ok h3,h4,by simpa using hn⟩
    ·cases h
  ·cases h
 ·cases h
def sub:CCode→List Nat→CCode
 |c,[]=>c
 | .seq a _,0::p=>sub a p
 | .seq _ b,_::p=>sub b p
 | .cond _ a _,0::p=>sub a p
 | .cond _ _ b,_::p=>sub b p
 | .block _ a,_::p=>sub a p
 | .loop a,_::p=>sub a p
 | .cut _ a,_::p=>sub a p
 |_,_=>.bad
inductive CT where
 |no
 |cut (live:List (Nat×Kd0)) (t:CT)
 |lp (live:List (Nat×Kd0)) (t:CT)
 |two (t u:CT)
 |one (t:CT)
def deco:CT→CCode→CCode
 | .cut live t,c=>.cut live (deco t c)
 | .lp live t,.loop c=>.loopC live (deco t c)
 | .two t u,.seq a b=>.seq (deco t a) (deco u b)
 | .two t u,.cond x a b=>.cond x (deco t a) (deco u b)
 | .one t,.block id c=>.block id (deco t c)
 | .one t,.loop c=>.loop (deco t c)
 |_,c=>c
theorem deco_strip:∀(t:CT) (c:CCode),strip (deco t c)=strip c:=by
 intro t;induction t with
 |no=>intro c;cases c<;>rfl
 |cut live t ih=>intro c;cases c<;>simp only[deco,strip,ih]
 |lp live t ih=>intro c;cases c<;>simp only[deco,strip,ih]
 |two t u iht ihu=>intro c;cases c<;>simp only[deco,strip,iht,ihu]
 |one t ih=>intro c;cases c<;>simp only[deco,strip,ih]
def autoC(cuts:Nat→CT)(gl:List Nat)(P:Program)(f:Nat):Option CFunc:=match autoK gl P f with
 |some c=>some ⟨deco (cuts f) c.body,c.results⟩
 |none=>none
theorem autoC_ok{cuts:Nat→CT}{gl:List Nat}{P:Program}{f:Nat}{c:CFunc}(h:autoC cuts gl P f=some c):cFunc gl P f c:=by
 unfold autoC at h;split at h
 ·rename_i c1 h1;cases h;obtain⟨fn,body,h2,h3,h4,h5⟩:=autoK_ok h1;exact⟨fn,body,h2,h3,by rw[deco_strip];exact h4,h5⟩
 ·cases h
def subC:CCode→List Nat→CCode
 |c,[]=>c
 | .seq a _,0::p=>subC a p
 | .seq _ b,_::p=>subC b p
 | .cond _ a _,0::p=>subC a p
 | .cond _ _ b,_::p=>subC b p
 | .block _ a,_::p=>subC a p
 | .loop a,_::p=>subC a p
 | .cut _ a,_::p=>subC a p
 | .loopC _ a,_::p=>subC a p
 |c,_::_=>c
def cdC(cuts:Nat→CT)(gl:List Nat)(P:Program)(f:Nat)(p:List Nat):CCode:=match autoC cuts gl P f with
 |some c=>subC c.body p
 |none=>.bad
def rsC(gl:List Nat)(P:Program)(f:Nat):List CRes:=match autoK gl P f with
 |some c=>c.results
 |none=>[]
structure Sl where
 a:Option Addr
 n:Nat
 c:Nat
abbrev Sl.v(s:Sl):Value:=.slice s.a s.n s.c
abbrev Sl.nil:Sl:=⟨none,0,0⟩
def asSL{α:Type}(v:Value)(K:Sl→Option α):Option α:=asSl v fun a n c=>K ⟨a,n,c⟩
abbrev P0(b:Nat):Value:=.pointer (some ⟨b,0,none⟩)
def castT(ds:List Kd0)(v:Value)(K:List Value→Res):Res:=match v with
 | .tuple vs=>castL ds vs.toList fun l=>K l
 |_=>none
def ldA(H:Heap)(a:Addr)(n:Nat):Option Value:=match H.ldN a n with
 |some l=>some (.agg l.toArray)
 |none=>none
def newK(H:Heap)(o:CObj)(K:Nat→Heap→Res):Res:=K H.next (H.new o)
def nextK(H:Heap)(a:Addr)(K:Heap→Int→Int→Res)(E:Heap→Res):Res:=match H.get a.block with
 |some (.iter s pos)=>if a.off=0 then(if pos<slen s then K (H.put a.block (.iter s (pos+(Utf8.decode s pos).2))) pos (Utf8.decode s pos).1 else E H)else none
 |_=>none
def nilK(v:Value)(K:Value→Res):Res:=match v with
 | .pointer (some a)=>K (.pointer (some a))
 | .iface t v=>K (.iface t v)
 |_=>none
def lookCT:List (Nat×CT)→Nat→CT
 |[],_=>.no
 |(g,t)::l,f=>if f=g then t else lookCT l f
end Go.Cm

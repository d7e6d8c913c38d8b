/-
  The clean machine's code is run by the model: operations, regions, control.
-/
import Derived.Test.YtjjchnjcmnkpdaaDoorCmD
namespace Go.Cm
open Go
def FR(μ:Mu)(nt:Nat)(fr:Fr)(a:Act):Prop:=nt≤a.tmps.size∧a.defers=[]∧∀t v,fr.get t=some v→∃v',a.tmps[t]?=some v'∧VR μ v v'
section
variable{P:Program}{w0:Start}{gl:List Nat}{nt:Nat}
theorem FR.mono{μ μ':Mu}(hm:μ.le μ'){fr:Fr}{a:Act}(h:FR μ nt fr a):FR μ' nt fr a:=⟨h.1,h.2.1,fun t v hv=>let ⟨v',h1,h2⟩:=h.2.2 t v hv;⟨v',h1,h2.mono hm⟩⟩
theorem Fr.get_cons(fr:Fr)(u t:Nat)(v:Value):Fr.get ((u,v)::fr) t=if t=u then some v else fr.get t:=rfl
theorem FR.put{μ:Mu}{fr:Fr}{a:Act}{d:Option Nat}{v v':Value}(h:FR μ nt fr a)(hd:dstOk nt d=true)(hv:VR μ v v'):FR μ nt (fr.setO d v) (a.put d v'):=by
 cases d with
 |none=>exact h
 |some d=>
  simp only[dstOk,decide_eq_true_eq]at hd;obtain⟨h1,h2,h3⟩:=h;refine⟨by simpa[Act.put]using h1,h2,?_⟩;intro t x hx;simp only[Fr.setO,Fr.get_cons]at hx;simp only[Act.put,Array.getElem?_setIfInBounds];by_cases ht:t=d
  ·subst ht;rw[if_pos rfl]at hx;cases hx;exact⟨v',by simp;omega,hv⟩
  ·rw[if_neg ht]at hx;have:¬d=t:=fun e=>ht e.symm;rw[if_neg this];exact h3 t x hx
theorem FR.skip{μ:Mu}{fr:Fr}{a:Act}{d:Option Nat}(h:FR μ nt fr a)(hd:dstOk nt d=true):FR μ nt (fr.delO d) (a.put d Go.undef):=by
 cases d with
 |none=>exact h
 |some d=>exact FR.put (d:=some d) h hd (VR.undef μ)
theorem eval_tmp{a:Act}{t:Nat}{v:Value}(h:a.tmps[t]?=some v):a.eval (.tmp t)=v:=by simp[Act.eval,h]
theorem ev_ok{μ:Mu}{H:Heap}{w:World}{fr:Fr}{a:Act}(R:RR P w0 μ H w)(F:FR μ nt fr a)(hgl:∀g∈gl,g<w0.ng){o:Operand}{x:COpd}{v:Value}(hc:copd gl o=some x)(h:ev fr x=some v):VR μ v (a.eval o):=by
 cases o<;>simp only[copd]at hc;case tmp t=>cases hc;obtain⟨v',h1,h2⟩:=F.2.2 t v h;rw[eval_tmp h1];exact h2
 case const c=>
  split at hc
  ·rename_i hp;cases hc;simp only[ev,Option.some.injEq]at h;subst h;exact VR.of_plainV hp
  ·cases hc
 case global g=>
  split at hc
  ·rename_i hg;cases hc;simp only[ev,Option.some.injEq]at h;subst h;obtain⟨m,h1,h2,h3⟩:=R.idn g (hgl g (by simpa using hg));exact .ptr ⟨rfl,rfl,m,h1,h2.symm,by simp[h3]⟩
  ·cases hc
 case func f=>cases hc;simp only[ev,Option.some.injEq]at h;subst h;exact .func _ rfl (fun i h=>by simp at h) rfl (fun i h=>by simp at h)
theorem evs_ok{μ:Mu}{H:Heap}{w:World}{fr:Fr}{a:Act}(R:RR P w0 μ H w)(F:FR μ nt fr a)(hgl:∀g∈gl,g<w0.ng):∀{os:List Operand} {xs:List COpd} {vs:List Value},copds gl os=some xs→evs fr xs=some vs→VRs μ vs (os.map a.eval)
 |[],xs,vs,hc,h=>by simp only[copds,Option.some.injEq]at hc;subst hc;simp only[evs,Option.some.injEq]at h;subst h;trivial
 |o::os,xs,vs,hc,h=>by
  unfold copds at hc;split at hc
  ·rename_i y ys h1 h2;cases hc;unfold evs at h;split at h
   ·rename_i v hv;split at h
    ·rename_i vs' hvs;cases h;exact⟨ev_ok R F hgl h1 hv,evs_ok R F hgl h2 hvs⟩
    ·cases h
   ·cases h
  ·cases hc
def CallOK(P:Program)(w0:Start)(call:CallF):Prop:=∀(f:Nat) (vs vs':List Value) (H:Heap) (v:Value) (H':Heap) (μ:Mu) (w:World),call f vs H=some (v,H')→RR P w0 μ H w→VRs μ vs vs'→∀(o:Oper) (a:Act) (next:Act→World→Prop) (Q:Exit→Act→World→Prop),(∀v' μ' w',VR μ' v v'→RR P w0 μ' H' w'→Ext μ H μ' H'→next (a.put o.dst v') w')→o.upon P a next Q ((callFunc f vs'.toArray).run P w)
theorem callK_some{x:Res}{K:Value→Heap→Res}{r:Value×Heap}(h:callK x K=some r):∃v H,x=some (v,H)∧K v H=some r:=by
 unfold callK at h;split at h
 ·exact⟨_,_,rfl,h⟩
 ·cases h
theorem pick_ok{ρ:Operand→Value}{dst:Option Tmp}{type:TypeId}{pos:String}{after:Array Edge}{guard:Option (Nat×Bool)}{c a b:Operand}{t:Bool}{w:World}(h:ρ c=.bool t):(execOp ρ ⟨dst,.pick c a b,type,pos,after,guard⟩).run P w=.ok (.value (ρ (if t then a else b))) w:=by
 simp only[execOp,h,asBool,Sem.run_bind,Sem.run_pure,Result.andThen_ok];cases t<;>rfl
theorem cOp_pick{o:Oper}{os:List Operand}(hi:cOp P o=some (.pick,os)):∃x y z,o.op=.pick x y z∧os=[x,y,z]:=by
 obtain⟨dst,op,type,pos,after,guard⟩:=o;cases op with
 |pick x y z=>simp only[cOp,Option.some.injEq,Prod.mk.injEq,true_and]at hi;exact⟨x,y,z,rfl,hi.symm⟩
 |binOp=>simp only[cOp]at hi;unfold cBin cEq at hi;repeat' split at hi
         all_goals cases hi
 |convert=>simp only[cOp]at hi;unfold cConv cConv0 at hi;repeat' split at hi
           all_goals cases hi
 |slice=>simp only[cOp]at hi;unfold cSlice at hi;simp only at hi;repeat' split at hi
         all_goals cases hi
 |call c=>
  simp only[cOp]at hi;split at hi
  ·unfold cBuiltin at hi
   repeat' split at hi
   all_goals cases hi
  all_goals cases hi
 |_=>
  simp only[cOp]at hi
  repeat' split at hi
  all_goals cases hi
theorem cOp_call{o:Oper}{os:List Operand}{f:Nat}(hi:cOp P o=some (.call f,os)):∃c,o.op=.call c∧c.callee=.value (.func f)∧os=c.args.toList:=by
 obtain⟨dst,op,type,pos,after,guard⟩:=o;cases op with
 |call c=>
  simp only[cOp]at hi;obtain⟨callee,args,argTypes⟩:=c;cases callee with
  |builtin b=>
   simp only at hi;unfold cBuiltin at hi
   repeat' split at hi
   all_goals cases hi
  |invoke=>cases hi
  |value q=>cases q<;>simp only[Option.some.injEq,Prod.mk.injEq,reduceCtorEq,false_and,CIns.call.injEq]at hi;obtain⟨rfl,rfl⟩:=hi;exact⟨_,rfl,rfl,rfl⟩
 |binOp=>simp only[cOp]at hi;unfold cBin cEq at hi;repeat' split at hi
         all_goals cases hi
 |convert=>simp only[cOp]at hi;unfold cConv cConv0 at hi;repeat' split at hi
           all_goals cases hi
 |slice=>simp only[cOp]at hi;unfold cSlice at hi;simp only at hi;repeat' split at hi
         all_goals cases hi
 |_=>
  simp only[cOp]at hi
  repeat' split at hi
  all_goals cases hi
theorem cOp_callv{o:Oper}{os:List Operand}(hi:cOp P o=some (.callv,os)):∃c x,o.op=.call c∧c.callee=.value x∧os=x::c.args.toList:=by
 obtain⟨dst,op,type,pos,after,guard⟩:=o;cases op with
 |call c=>
  simp only[cOp]at hi;obtain⟨callee,args,argTypes⟩:=c;cases callee with
  |builtin b=>
   simp only at hi;unfold cBuiltin at hi
   repeat' split at hi
   all_goals cases hi
  |invoke=>cases hi
  |value q=>cases q<;>simp only[Option.some.injEq,Prod.mk.injEq,reduceCtorEq,false_and,true_and]at hi<;>exact⟨_,_,rfl,rfl,hi.symm⟩
 |binOp=>simp only[cOp]at hi;unfold cBin cEq at hi;repeat' split at hi
         all_goals cases hi
 |convert=>simp only[cOp]at hi;unfold cConv cConv0 at hi;repeat' split at hi
           all_goals cases hi
 |slice=>simp only[cOp]at hi;unfold cSlice at hi;simp only at hi;repeat' split at hi
         all_goals cases hi
 |_=>
  simp only[cOp]at hi
  repeat' split at hi
  all_goals cases hi
theorem run_callVal{ρ:Operand→Value}{dst:Option Tmp}{type:TypeId}{pos:String}{after:Array Edge}{guard:Option (Nat×Bool)}{args:Array Operand}{argTypes:Array TypeId}{x:Operand}{f:Nat}{first cap:Array Value}(h:ρ x=.func (.func f) first cap):execOp ρ ⟨dst,.call ⟨.value x,args,argTypes⟩,type,pos,after,guard⟩=callFunc f (first++args.map ρ++cap):=by
 simp only[execOp,resolve,h,Deferred.ofValue];rfl
theorem ins_ok{call:CallF}(hcall:CallOK P w0 call)(hgl:∀g∈gl,g<w0.ng){ops:Array Oper}{o:Oper}{c:COp}(hc:cOper gl nt P ops o=some (stripOp c)){μ:Mu}{H:Heap}{w:World}{fr:Fr}{a:Act}{K:Value→Heap→Res}{r:Value×Heap}(R:RR P w0 μ H w)(F:FR μ nt fr a)(h:insK call c fr H K=some r){next:Act→World→Prop}{Q:Exit→Act→World→Prop}(hn:∀μ' v v' H' w',K v H'=some r→VR μ' v v'→RR P w0 μ' H' w'→Ext μ H μ' H'→next (a.put o.dst v') w'):o.wp P a w next Q:=by
 have hρ:∀v,a.eval (.const v)=v:=fun _=>rfl;unfold cOper at hc;split at hc
 ·rename_i g hg;split at hc
  ·split at hc
   ·rename_i i os hi;split at hc
    ·rename_i xs hxs;obtain⟨cd,ck,cg,ci,ca⟩:=c;simp only[stripOp,Option.some.injEq,COp.mk.injEq]at hc;obtain⟨_,_,_,rfl,rfl⟩:=hc;unfold Oper.wp;cases i with
     |bad=>simp[insK]at h
     |pure p=>simp only[insK]at h;obtain⟨vs,h1,h2⟩:=optK_some h;obtain⟨v,v',h3,h4,h5⟩:=pure_ok hi μ a.eval vs w _ r hρ (evs_ok R F hgl hxs h1) h2;rw[h4,Oper.upon_value];exact hn μ v v' H w (cast_some h3) h5 R (Ext.refl _ _)
     |pick=>
      obtain⟨dst,op,type,pos,after,guard⟩:=o;have hop:=cOp_pick hi;simp only at hop;obtain⟨x,y,z,rfl,rfl⟩:=hop;simp only[copds]at hxs;split at hxs
      ·rename_i x1 l1 hx1 hl1;split at hl1
       ·rename_i y1 l2 hy1 hl2;split at hl2
        ·rename_i z1 l3 hz1 hl3;cases hl3;cases hl2;cases hl1;cases hxs;simp only[insK]at h;obtain⟨cv,h1,h2⟩:=optK_some h;obtain⟨b,rfl,h3⟩:=asB_some h2;obtain⟨v,h4,h5⟩:=optK_some h3;have e1:=(ev_ok R F hgl hx1 h1).bool_inv;rw[pick_ok e1,Oper.upon_value];refine hn μ v _ H w (cast_some h5) ?_ R (Ext.refl _ _);cases b
         ·exact ev_ok R F hgl hz1 h4
         ·exact ev_ok R F hgl hy1 h4
        ·cases hl2
       ·cases hl1
      ·cases hxs
     |read ri=>simp only[insK]at h;obtain⟨vs,h1,h2⟩:=optK_some h;obtain⟨v,h3,h4⟩:=optK_some h2;obtain⟨v',h5,h6⟩:=read_ok hi w0 μ H w a.eval vs v R hρ (evs_ok R F hgl hxs h1) h3;rw[h5,Oper.upon_value];exact hn μ v v' H w (cast_some h4) h6 R (Ext.refl _ _)
     |eff ei=>
      simp only[insK]at h;obtain⟨vs,h1,h2⟩:=optK_some h;obtain⟨v,H',μ',v',nx,w',h3,h4,h5,h6,h7,h8⟩:=eff_ok hi w0 μ H w a.eval vs _ r R hρ (evs_ok R F hgl hxs h1) h2;rw[h4];cases nx<;>simp only[nxv,Option.some.injEq,reduceCtorEq]at h5
      ·subst h5;rw[Oper.upon_value];exact hn μ' v _ H' w' (cast_some h3) h6 h7 h8
      ·subst h5;rw[Oper.upon_skip];exact hn μ' v _ H' w' (cast_some h3) h6 h7 h8
     |call f=>
      simp only[insK]at h;obtain⟨vs,h1,h2⟩:=optK_some h;obtain⟨v,H',h3,h4⟩:=callK_some h2;obtain⟨c,hop,hcal,rfl⟩:=cOp_call hi;obtain⟨dst,op,type,pos,after,guard⟩:=o;simp only at hop;subst hop;obtain⟨callee,args,argTypes⟩:=c;simp only at hcal;subst hcal;have hrun:=run_callVal (ρ:=a.eval) (dst:=dst) (type:=type) (pos:=pos) (after:=after) (guard:=guard) (args:=args) (argTypes:=argTypes) (x:=.func f) (f:=f) (first:= #[]) (cap:= #[]) rfl;rw[hrun];have harr:(#[]++args.map a.eval++ #[]:Array Value)=(args.toList.map a.eval).toArray:=by apply Array.toList_inj.1;simp
      rw[harr];exact hcall f vs _ H v H' μ w h3 R (evs_ok R F hgl hxs h1) _ a next Q (fun v' μ' w' k1 k2 k3=>hn μ' v v' H' w' (cast_some h4) k1 k2 k3)
     |callv=>
      simp only[insK]at h;obtain⟨vs,h1,h2⟩:=optK_some h;split at h2
      ·rename_i f first cap vs'
       obtain⟨v,H',h3,h4⟩:=callK_some h2;obtain⟨c,x,hop,hcal,rfl⟩:=cOp_callv hi;obtain⟨dst,op,type,pos,after,guard⟩:=o;simp only at hop;subst hop;obtain⟨callee,args,argTypes⟩:=c;simp only at hcal;subst hcal;have hv:=evs_ok R F hgl hxs h1;simp only[List.map_cons]at hv;obtain⟨hf,hv⟩:=hv;generalize hz:a.eval x=z at hf;cases hf with
       |func _ hs1 hs2 hs3 hs4=>
        rw[run_callVal hz];rename_i f' c';have harr:(f'++args.map a.eval++c':Array Value)=(f'.toList++args.toList.map a.eval++c'.toList).toArray:=by apply Array.toList_inj.1;simp
        rw[harr];have arrs:∀{p q:Array Value} (h1:p.size=q.size),(∀(i:Nat) (h:i<p.size) (h':i<q.size),VR μ p[i] q[i])→VRs μ p.toList q.toList:=by intro p q h1 h2;refine VRs.of (by simpa using h1) fun i v v' e1 e2=>?_;simp only[Array.getElem?_toList]at e1 e2;obtain⟨e3,rfl⟩:=Array.getElem?_eq_some_iff.1 e1;obtain⟨e4,rfl⟩:=Array.getElem?_eq_some_iff.1 e2;exact h2 i e3 e4
        exact hcall f _ _ H v H' μ w h3 R (((arrs hs1 hs2).append hv).append (arrs hs3 hs4)) _ a next Q (fun v' μ' w' k1 k2 k3=>hn μ' v v' H' w' (cast_some h4) k1 k2 k3)
      ·cases h2
    ·obtain⟨cd,ck,cg,ci,ca⟩:=c;simp only[stripOp,badOp,Option.some.injEq,COp.mk.injEq]at hc;obtain⟨_,_,_,rfl,_⟩:=hc;simp[insK]at h
   ·obtain⟨cd,ck,cg,ci,ca⟩:=c;simp only[stripOp,badOp,Option.some.injEq,COp.mk.injEq]at hc;obtain⟨_,_,_,rfl,_⟩:=hc;simp[insK]at h
  ·cases hc
 ·cases hc
end
section
variable{P:Program}{w0:Start}{gl:List Nat}{nt:Nat}
theorem guard_ok{μ:Mu}{fr:Fr}{a:Act}{ops:Array Oper}{g cg:Option (Nat×Bool)}(F:FR μ nt fr a)(hg:guardOf ops g=some cg){yes no:Fr→Res}{r:Value×Heap}(h:guardK cg fr yes no=some r)(o:Oper)(ho:o.guard=g):
  ∃fr',FR μ nt fr' a∧((Region.wanted o (yielded ops a.tmps)=true∧yes fr'=some r)∨(Region.wanted o (yielded ops a.tmps)=false∧no fr'=some r)):=by
 cases g with
 |none=>simp only[guardOf,Option.some.injEq]at hg;subst hg;exact⟨fr,F,.inl ⟨by simp[Region.wanted,ho],h⟩⟩
 |some q=>
  obtain⟨j,want⟩:=q;simp only[guardOf]at hg;split at hg
  ·rename_i t ht;simp only[Option.some.injEq]at hg;subst hg;simp only[guardK]at h;obtain⟨v,h1,h2⟩:=optK_some h;obtain⟨v',h4,h5⟩:=F.2.2 t _ h1;by_cases hb:∀b,v≠ .bool b
   ·refine⟨fr,F,.inr ⟨?_,?_⟩⟩
    ·have hy:yielded ops a.tmps j=none:=by
      unfold yielded;rw[ht];simp only[Option.bind_some,h4];cases h5<;>first|rfl|exact absurd rfl (hb _)
     unfold Region.wanted;rw[ho];simp only[hy];rfl
    ·unfold gB at h2;split at h2
     ·exact absurd rfl (hb _)
     ·exact h2
   obtain⟨b,rfl⟩:∃b,v=.bool b:=Classical.byContradiction fun h=>hb fun b e=>h ⟨b,e⟩;have h3:=h2;simp only[gB]at h3;have hy:yielded ops a.tmps j=some b:=by unfold yielded;rw[ht];simp only[Option.bind_some,h4,h5.bool_inv]
   have hF:FR μ nt ((t,.bool b)::fr) a:=by
    refine⟨F.1,F.2.1,fun u x hx=>?_⟩;rw[Fr.get_cons]at hx;split at hx
    ·rename_i e;subst e;cases hx;exact⟨v',h4,h5⟩
    ·exact F.2.2 u x hx
   refine⟨_,hF,?_⟩;have hw:Region.wanted o (yielded ops a.tmps)=(b==want):=by unfold Region.wanted;rw[ho];simp only[hy];cases b<;>cases want<;>rfl
   rw[hw];cases b<;>cases want<;>simp at h3⊢ <;>exact h3
  ·cases hg
theorem cOper_guard{ops:Array Oper}{o:Oper}{c:COp}(hc:cOper gl nt P ops o=some (stripOp c)):guardOf ops o.guard=some c.guard∧dstOk nt o.dst=true∧c.dst=o.dst:=by
 unfold cOper at hc;split at hc
 ·rename_i g hg;split at hc
  ·rename_i hd;have:c.guard=g∧c.dst=o.dst:=by
    obtain⟨cd,ck,cg,ci,ca⟩:=c;split at hc
    ·split at hc
     ·simp only[stripOp,Option.some.injEq,COp.mk.injEq]at hc;exact⟨hc.2.2.1.symm,hc.1.symm⟩
     ·simp only[stripOp,badOp,Option.some.injEq,COp.mk.injEq]at hc;exact⟨hc.2.2.1.symm,hc.1.symm⟩
    ·simp only[stripOp,badOp,Option.some.injEq,COp.mk.injEq]at hc;exact⟨hc.2.2.1.symm,hc.1.symm⟩
   rw[this.1];exact⟨hg,hd,this.2⟩
  ·cases hc
 ·cases hc
theorem ops_ok{call:CallF}(hcall:CallOK P w0 call)(hgl:∀g∈gl,g<w0.ng){ops:Array Oper}{Q:Exit→Act→World→Prop}{K:Fr→Heap→Res}{r:Value×Heap}:∀(l:List Oper) (cs:List COp),cOpers gl nt P ops l=some (cs.map stripOp)→
  ∀(μ:Mu) (H:Heap) (w:World) (fr:Fr) (a:Act),RR P w0 μ H w→FR μ nt fr a→runOps call cs fr H K=some r→
  (∀μ' fr' H' a' w',K fr' H'=some r→RR P w0 μ' H' w'→FR μ' nt fr' a'→Ext μ H μ' H'→Q .normal a' w')→wpList P ops Q l a w
 |[],[],_,μ,H,w,fr,a,R,F,h,hQ=>hQ μ fr H a w h R F (Ext.refl _ _)
 |[],_::_,hc,_,_,_,_,_,_,_,_,_=>by simp[cOpers]at hc
 |o::l,[],hc,_,_,_,_,_,_,_,_,_=>by unfold cOpers at hc;split at hc<;>simp at hc
 |o::l,c::cs,hc,μ,H,w,fr,a,R,F,h,hQ=>by
  unfold cOpers at hc;split at hc
  ·rename_i c1 cs1 h1 h2;simp only[List.map_cons,Option.some.injEq,List.cons.injEq]at hc;obtain⟨rfl,rfl⟩:=hc;obtain⟨g1,g2,g3⟩:=cOper_guard h1;simp only[runOps]at h;obtain⟨fr',F',hh⟩:=guard_ok F g1 h o rfl;unfold wpList;rcases hh with ⟨hw,hy⟩|⟨hw,hy⟩
   ·rw[if_pos hw];left;refine ins_ok hcall hgl h1 R F' hy ?_;intro μ' v v' H' w' k1 k2 k3 k4;refine ops_ok hcall hgl l cs h2 μ' H' w' _ _ k3 ?_ k1 (fun μ'' fr'' H'' a'' w'' q1 q2 q3 q4=>hQ μ'' fr'' H'' a'' w'' q1 q2 q3 (k4.trans q4));rw[g3];exact(F'.mono k4.le).put g2 k2
   ·rw[if_neg (by rw[hw];simp)];refine ops_ok hcall hgl l cs h2 μ H w _ _ R ?_ hy hQ;rw[g3];exact F'.skip g2
  ·cases hc
def LoopWp(P:Program)(c:Code)(Q:Exit→Act→World→Prop)(a:Act)(w:World):Prop:=∀(b:Frame) (k:List Item) (cs:List Frame),∃e a' w',Q e a' w'∧Arrives P (lone (b.at a (.code c:: .inLoop c::k)) cs w) b k cs e a' w'
theorem LoopWp.loop{c:Code}{Q:Exit→Act→World→Prop}{a:Act}{w:World}(h:LoopWp P c Q a w):(Code.loop c).wp P Q a w:=fun b k cs=>let ⟨e,a',w',q,r⟩:=h b k cs;⟨e,a',w',q,.of_steps (.one step_loop) r⟩
theorem LoopWp.step{c:Code}{Q:Exit→Act→World→Prop}{a:Act}{w:World}(h:c.wp P (Exit.then (LoopWp P c Q) Q) a w):LoopWp P c Q a w:=by
 intro b k cs;obtain⟨e,a₁,w₁,hq,harr⟩:=h b (.inLoop c::k) cs;cases e with
 |normal=>obtain⟨e₂,a₂,w₂,hq₂,harr₂⟩:=hq b k cs;exact⟨e₂,a₂,w₂,hq₂,.of_steps (Steps.trans harr (.one step_inLoop)) harr₂⟩
 |exit id=>exact⟨_,a₁,w₁,hq,.pass (x:=.inLoop c) rfl (fun _ _=>.inl (by simp)) harr⟩
 |goto l=>exact⟨_,a₁,w₁,hq,.pass (x:=.inLoop c) rfl (fun _ _=>.inl (by simp)) harr⟩
 |ret=>exact⟨_,a₁,w₁,hq,.pass (x:=.inLoop c) rfl (fun _ _=>.inl (by simp)) harr⟩
 |panic ch=>exact⟨_,a₁,w₁,hq,.pass (x:=.inLoop c) rfl (fun _ _=>.inl (by simp)) harr⟩
 |outgrown=>exact⟨_,a₁,w₁,hq,.pass (x:=.inLoop c) rfl (fun _ _=>.inl (by simp)) harr⟩
theorem live_ok{r:Value×Heap}:∀{l:List (Nat×Kd0)} {fr:Fr} {K:Fr→Res},liveK l fr K=some r→∃fr',K fr'=some r∧∀t v,fr'.get t=some v→fr.get t=some v
 |[],fr,K,h=>⟨[],h,fun t v h=>by simp[Fr.get]at h⟩
 |(t,d)::l,fr,K,h=>by
  simp only[liveK]at h;obtain⟨v,h1,h2⟩:=optK_some h;have h3:=cast0_some h2;obtain⟨fr',h4,h5⟩:=live_ok h3;refine⟨_,h4,fun u x hx=>?_⟩;rw[Fr.get_cons]at hx;split at hx
  ·rename_i e;subst e;cases hx;exact h1
  ·exact h5 u x hx
theorem FR.sub{μ:Mu}{fr fr':Fr}{a:Act}(h:FR μ nt fr a)(hs:∀t v,fr'.get t=some v→fr.get t=some v):FR μ nt fr' a:=⟨h.1,h.2.1,fun t v hv=>h.2.2 t v (hs t v hv)⟩
def DrawOK(P:Program)(w0:Start)(gl:List Nat)(nt:Nat)(call:CallF):Prop:=∀(id:Nat) (ops:Array Oper) (al:List COp) (cs:List (COp×Nat×Nat)),cDraw gl nt P ops=some (.regD (al.map stripOp) (cs.map fun(c,l,h)=>(stripOp c,l,h)))→∀(μ:Mu) (H:Heap) (w:World) (fr:Fr) (a:Act) (K:Fr→Heap→Res) (r:Value×Heap) (Q:Exit→Act→World→Prop),RR P w0 μ H w→FR μ nt fr a→(runOps call al fr H fun fr H=>runD call cs fr H [H] [] K)=some r→(∀μ' fr' H' a' w',K fr' H'=some r→RR P w0 μ' H' w'→FR μ' nt fr' a'→Ext μ H μ' H'→Q .normal a' w')→(Code.region id ops true).wp P Q a w
def KOK(P:Program)(w0:Start)(nt:Nat)(μ0:Mu)(H0:Heap)(r:Value×Heap)(K:Kt)(Q:Act→World→Prop):Prop:=∀μ fr H a w,K fr H=some r→RR P w0 μ H w→FR μ nt fr a→Ext μ0 H0 μ H→Q a w
theorem look_cons{ke:List (Nat×Kt)}{i id:Nat}{k:Kt}:look ((i,k)::ke) id=if id=i then k else look ke id:=rfl
theorem region_form{id:Nat}{ops:Array Oper}{draw:Bool}{c:CCode}(h:compile gl nt P (.region id ops draw)=some c):
  (draw=true∧cDraw gl nt P ops=some c∧∃al cs,c=.regD al cs)∨(draw=false∧∃cs,cOpers gl nt P ops ops.toList=some cs∧c=.reg cs)∨c=.bad:=by
 cases draw with
 |true=>
  simp only[compile,if_true,Option.some.injEq]at h;cases hd:cDraw gl nt P ops with
  |none=>rw[hd]at h;exact .inr (.inr h.symm)
  |some d=>
   rw[hd]at h;have h':d=c:=h;subst h';refine .inl ⟨rfl,rfl,?_⟩;unfold cDraw at hd;split at hd
   ·simp only at hd;split at hd
    ·simp only[Option.some.injEq]at hd;exact⟨_,_,hd.symm⟩
    ·split at hd
     ·simp only[Option.some.injEq]at hd;exact⟨_,_,hd.symm⟩
     ·cases hd
   ·cases hd
 |false=>
  simp only[compile,Bool.false_eq_true,if_false]at h;split at h
  ·rename_i cs e;simp only[Option.some.injEq]at h;exact .inr (.inl ⟨rfl,cs,e,h.symm⟩)
  ·simp only[Option.some.injEq]at h;exact .inr (.inr h.symm)
theorem run_ok{call:CallF}{N:Nat}(hcall:CallOK P w0 call)(hdraw:DrawOK P w0 gl nt call)(hgl:∀g∈gl,g<w0.ng){μ0:Mu}{H0:Heap}{r:Value×Heap}:∀(c:CCode) (code:Code),compile gl nt P code=some (strip c)→
  ∀(kn:Kt) (ke:List (Nat×Kt)) (kr:Kt) (Q:Exit→Act→World→Prop) (μ:Mu) (fr:Fr) (H:Heap) (a:Act) (w:World),
  run call N c kn ke kr fr H=some r→RR P w0 μ H w→FR μ nt fr a→Ext μ0 H0 μ H→
  KOK P w0 nt μ0 H0 r kn (Q .normal)→(∀id,KOK P w0 nt μ0 H0 r (look ke id) (Q (.exit id)))→KOK P w0 nt μ0 H0 r kr (Q .ret)→code.wp P Q a w:=by
 intro c;induction c with
 |skip=>
  intro code hc kn ke kr Q μ fr H a w h R F E hn he hr;cases code;case region=>rcases region_form hc with ⟨_,_,_,_,e⟩|⟨_,_,_,e⟩|e<;>cases e
  all_goals simp only[compile,strip]at hc
  case skip=>exact wp_skip (hn μ fr H a w h R F E)
  all_goals (repeat' split at hc)
  all_goals cases hc
 |seq x y ihx ihy=>
  intro code hc kn ke kr Q μ fr H a w h R F E hn he hr;cases code;case region=>rcases region_form hc with ⟨_,_,_,_,e⟩|⟨_,_,_,e⟩|e<;>cases e
  all_goals simp only[compile,strip]at hc
  case seq c1 c2=>
   split at hc
   ·rename_i x1 y1 e1 e2;simp only[Option.some.injEq,CCode.seq.injEq]at hc;obtain⟨rfl,rfl⟩:=hc;refine wp_seq (ihx c1 e1 _ ke kr _ μ fr H a w h R F E ?_ ?_ ?_)
    ·intro μ' fr' H' a' w' h' R' F' E';exact ihy c2 e2 kn ke kr Q μ' fr' H' a' w' h' R' F' E' hn he hr
    ·exact he
    ·exact hr
   ·cases hc
  all_goals (repeat' split at hc)
  all_goals cases hc
 |reg ops=>
  intro code hc kn ke kr Q μ fr H a w h R F E hn he hr;cases code;case region id rops draw=>
   rcases region_form hc with ⟨_,_,_,_,e⟩|⟨rfl,cs,e1,e2⟩|e
   ·cases e
   ·simp only[strip,CCode.reg.injEq]at e2;subst e2;refine wp_region_list (ops_ok hcall hgl rops.toList ops e1 μ H w fr a R F h ?_);intro μ' fr' H' a' w' q1 q2 q3 q4;exact hn μ' fr' H' a' w' q1 q2 q3 (E.trans q4)
   ·cases e
  all_goals simp only[compile,strip]at hc
  all_goals (repeat' split at hc)
  all_goals cases hc
 |regD al ops=>
  intro code hc kn ke kr Q μ fr H a w h R F E hn he hr;cases code;case region id rops draw=>
   rcases region_form hc with ⟨rfl,e1,_,_,e2⟩|⟨_,_,_,e⟩|e
   ·refine hdraw id rops al ops e1 μ H w fr a kn r Q R F h ?_;intro μ' fr' H' a' w' q1 q2 q3 q4;exact hn μ' fr' H' a' w' q1 q2 q3 (E.trans q4)
   ·cases e
   ·cases e
  all_goals simp only[compile,strip]at hc
  all_goals (repeat' split at hc)
  all_goals cases hc
 |cond x c1 c2 ih1 ih2=>
  intro code hc kn ke kr Q μ fr H a w h R F E hn he hr;cases code;case region=>rcases region_form hc with ⟨_,_,_,_,e⟩|⟨_,_,_,e⟩|e<;>cases e
  all_goals simp only[compile,strip]at hc
  case cond o d1 d2=>
   split at hc
   ·rename_i y x1 y1 e0 e1 e2;simp only[Option.some.injEq,CCode.cond.injEq]at hc;obtain⟨rfl,rfl,rfl⟩:=hc;simp only[run]at h;obtain⟨v,h1,h2⟩:=optK_some h;obtain⟨t,rfl,h3⟩:=asB_some h2;have hev:=(ev_ok R F hgl e0 h1).bool_inv;cases t with
    |true=>exact wp_cond_true hev (ih1 d1 e1 kn ke kr Q μ fr H a w (by simpa using h3) R F E hn he hr)
    |false=>exact wp_cond_false hev (ih2 d2 e2 kn ke kr Q μ fr H a w (by simpa using h3) R F E hn he hr)
   ·cases hc
  all_goals (repeat' split at hc)
  all_goals cases hc
 |block id c ih=>
  intro code hc kn ke kr Q μ fr H a w h R F E hn he hr;cases code;case region=>rcases region_form hc with ⟨_,_,_,_,e⟩|⟨_,_,_,e⟩|e<;>cases e
  all_goals simp only[compile,strip]at hc
  case block id2 d=>
   split at hc
   ·rename_i x e1;simp only[Option.some.injEq,CCode.block.injEq]at hc;obtain⟨rfl,rfl⟩:=hc;refine wp_block (ih d e1 kn _ kr _ μ fr H a w h R F E hn ?_ hr);intro j μ' fr' H' a' w' h' R' F' E';rw[look_cons]at h';show if j=id2 then Q .normal a' w' else Q (.exit j) a' w';split at h'
    ·rename_i e;rw[if_pos e];exact hn μ' fr' H' a' w' h' R' F' E'
    ·rename_i e;rw[if_neg e];exact he j μ' fr' H' a' w' h' R' F' E'
   ·cases hc
  all_goals (repeat' split at hc)
  all_goals cases hc
 |loop c ih=>
  intro code hc kn ke kr Q μ fr H a w h R F E hn he hr;cases code;case region=>rcases region_form hc with ⟨_,_,_,_,e⟩|⟨_,_,_,e⟩|e<;>cases e
  all_goals simp only[compile,strip]at hc
  case loop d=>
   split at hc
   ·rename_i x e1;simp only[Option.some.injEq,CCode.loop.injEq]at hc;subst hc;refine LoopWp.loop ?_;simp only[run]at h;have key:∀(n:Nat) (μ:Mu) (fr:Fr) (H:Heap) (a:Act) (w:World),iter (fun k=>run call N c k ke kr) n fr H=some r→RR P w0 μ H w→FR μ nt fr a→Ext μ0 H0 μ H→LoopWp P d Q a w:=by
     intro n;induction n with
     |zero=>intro μ fr H a w h;simp[iter]at h
     |succ n ihn=>
      intro μ fr H a w h R F E;refine LoopWp.step (ih d e1 _ ke kr _ μ fr H a w h R F E ?_ ?_ ?_)
      ·intro μ' fr' H' a' w' h' R' F' E';exact ihn μ' fr' H' a' w' h' R' F' E'
      ·exact he
      ·exact hr
    exact key N μ fr H a w h R F E
   ·cases hc
  all_goals (repeat' split at hc)
  all_goals cases hc
 |exit id=>
  intro code hc kn ke kr Q μ fr H a w h R F E hn he hr;cases code;case region=>rcases region_form hc with ⟨_,_,_,_,e⟩|⟨_,_,_,e⟩|e<;>cases e
  all_goals simp only[compile,strip]at hc
  case exit id2=>simp only[Option.some.injEq,CCode.exit.injEq]at hc;subst hc;exact wp_exit (he _ μ fr H a w h R F E)
  all_goals (repeat' split at hc)
  all_goals cases hc
 |ret=>
  intro code hc kn ke kr Q μ fr H a w h R F E hn he hr;cases code;case region=>rcases region_form hc with ⟨_,_,_,_,e⟩|⟨_,_,_,e⟩|e<;>cases e
  all_goals simp only[compile,strip]at hc
  case ret=>exact wp_ret (hr μ fr H a w h R F E)
  all_goals (repeat' split at hc)
  all_goals cases hc
 |bad=>intro code hc kn ke kr Q μ fr H a w h R F E hn he hr;simp[run]at h
 |cut live c ih=>intro code hc kn ke kr Q μ fr H a w h R F E hn he hr;simp only[run,opq_eq,backK]at h;obtain⟨fr',h1,h2⟩:=live_ok h;exact ih code hc kn ke kr Q μ fr' H a w h1 R (F.sub h2) E hn he hr
 |loopC live c ih=>
  intro code hc kn ke kr Q μ fr H a w h R F E hn he hr;cases code;case region=>rcases region_form hc with ⟨_,_,_,_,e⟩|⟨_,_,_,e⟩|e<;>cases e
  all_goals simp only[compile,strip]at hc
  case loop d=>
   split at hc
   ·rename_i x e1;simp only[Option.some.injEq,CCode.loop.injEq]at hc;subst hc;refine LoopWp.loop ?_;simp only[run,opq_eq,backK]at h;obtain⟨fr0,h1,h2⟩:=live_ok h;have key:∀(n:Nat) (μ:Mu) (fr:Fr) (H:Heap) (a:Act) (w:World),iter (fun k=>run call N c (backK live k) ke kr) n fr H=some r→RR P w0 μ H w→FR μ nt fr a→Ext μ0 H0 μ H→LoopWp P d Q a w:=by
     intro n;induction n with
     |zero=>intro μ fr H a w h;simp[iter]at h
     |succ n ihn=>
      intro μ fr H a w h R F E;refine LoopWp.step (ih d e1 _ ke kr _ μ fr H a w h R F E ?_ ?_ ?_)
      ·intro μ' fr' H' a' w' h' R' F' E';simp only[backK]at h';obtain⟨fr2,h3,h4⟩:=live_ok h';exact ihn μ' fr2 H' a' w' h3 R' (F'.sub h4) E'
      ·exact he
      ·exact hr
    exact key N μ fr0 H a w h1 R (F.sub h2) E
   ·cases hc
  all_goals (repeat' split at hc)
  all_goals cases hc
end
section
variable{P:Program}{w0:Start}{gl:List Nat}{nt:Nat}
theorem load_form{n:Nat}{agg:Bool}{v x:Value}{H:Heap}(h:readD (.load n agg) [v] H=some x):∃ad,v=.pointer (some ad):=by
 cases v;case pointer o=>
  cases o
  ·simp[readD]at h
  ·exact⟨_,rfl⟩
 all_goals simp[readD]at h
theorem run_enter{f:FuncId}{fn:Func}{c:Code}(hf:P.funcs[f]?=some fn)(hname:(fn.name== "runtime.NumGoroutine")=false)(hb:fn.body=some c)(args:Array Value)(w:World):(callFunc f args).run P w=.ok (.enter f args) w:=by
 have h1:fn.name≠ "runtime.NumGoroutine" :=by simpa using hname
 simp[callFunc,hf,h1,hb]
theorem resL_ok{μ:Mu}{H:Heap}{w:World}(R:RR P w0 μ H w){fr:Fr}{a:Act}(F:FR μ nt fr a)(f:ResultVar→Sem Value)(hf:∀u,f (.tmp u)=pure (a.tmps.getD u undef))(hc:∀x t,f (.cell x t)=(do loadVar t (←asAddr (a.tmps.getD x undef)))):
  ∀(l:List ResultVar) (rs:List CRes) (vs:List Value),cRess P l=some rs→resL H fr rs=some vs→∃vs',(l.mapM f).run P w=.ok vs' w∧VRs μ vs vs':=by
 intro l;induction l with
 |nil=>intro rs vs h1 h2;simp only[cRess,Option.some.injEq]at h1;subst h1;simp only[resL,Option.some.injEq]at h2;subst h2;exact⟨[],by simp,trivial⟩
 |cons x l ih=>
  intro rs vs h1 h2;cases x with
  |tmp u=>
   simp only[cRess]at h1;split at h1
   ·rename_i r hr;simp only[Option.some.injEq]at h1;subst h1;simp only[resL]at h2;split at h2
    ·rename_i v hv;split at h2
     ·rename_i vs1 hvs;simp only[Option.some.injEq]at h2;subst h2;obtain⟨vs',h3,h4⟩:=ih r vs1 hr hvs;obtain⟨v',h5,h6⟩:=F.2.2 u v hv;refine⟨v'::vs',?_,h6,h4⟩;have e:a.tmps.getD u undef=v':=by simp[Array.getD_eq_getD_getElem?,h5]
      simp[List.mapM_cons,hf,h3,e]
     ·cases h2
    ·cases h2
   ·cases h1
  |cell u t=>
   simp only[cRess]at h1;split at h1
   ·rename_i r hr;split at h1
    ·rename_i hok;simp only[Option.some.injEq]at h1;subst h1;simp only[resL]at h2;split at h2
     ·rename_i v hv;split at h2
      ·rename_i x hx;split at h2
       ·rename_i vs1 hvs;simp only[Option.some.injEq]at h2;subst h2;obtain⟨vs',h3,h4⟩:=ih r vs1 hr hvs;obtain⟨v',h5,h6⟩:=F.2.2 u v hv;have e:a.tmps.getD u undef=v':=by simp[Array.getD_eq_getD_getElem?,h5]
        have hp:=load_form hx;obtain⟨ad,rfl⟩:=hp;cases h6 with
        |ptr ha=>obtain⟨x',h7,h8⟩:=loadVar_ok R hok ha hx;refine⟨x'::vs',?_,h8,h4⟩;rw[List.mapM_cons,hc,e];simp[asAddr,h7,h3]
       ·cases h2
      ·cases h2
     ·cases h2
    ·cases h1
   ·cases h1
theorem results_ok{μ:Mu}{H:Heap}{w:World}(R:RR P w0 μ H w){fr:Fr}{a:Act}(F:FR μ nt fr a){fn:Func}{rs:List CRes}(hr:cRess P fn.results.toList=some rs){v:Value}{H':Heap}(h:retK rs fr H=some (v,H')):∃v',(results fn a.tmps).run P w=.ok v' w∧VR μ v v'∧H'=H:=by
 unfold retK at h;have key:∀vs,resL H fr rs=some vs→∃vs',(results fn a.tmps).run P w=.ok (if h:vs'.toArray.size=1 then vs'.toArray[0]else .tuple vs'.toArray) w∧VRs μ vs vs':=by
  intro vs hvs;obtain⟨vs',h1,h2⟩:=resL_ok R F (fun| .tmp t=>pure (a.tmps.getD t undef)| .cell x t=>do loadVar t (←asAddr (a.tmps.getD x undef))) (fun _=>rfl) (fun _ _=>rfl) _ _ _ hr hvs;refine⟨vs',?_,h2⟩;unfold results;rw[show fn.results=fn.results.toList.toArray by simp,List.mapM_toArray];simp only[Sem.run_bind,Sem.run_map]
  erw [h1]
  rfl
 split at h
 ·rename_i x hx;simp only[Option.some.injEq,Prod.mk.injEq]at h;obtain⟨rfl,rfl⟩:=h;obtain⟨vs',h1,h2⟩:=key _ hx
  match vs',h2 with
  |[x'],h2=>exact⟨x',by simpa using h1,h2.1,rfl⟩
 ·rename_i vs hn hvs;simp only[Option.some.injEq,Prod.mk.injEq]at h;obtain⟨rfl,rfl⟩:=h;obtain⟨vs',h1,h2⟩:=key _ hvs;refine⟨.tuple vs'.toArray,?_,?_,rfl⟩
  ·rw[h1];have hl:vs'.length≠1:=by
    rw[←h2.length];intro e
    match vs,e with
    |[x],_=>exact hn x rfl
   simp[hl]
  ·refine VR.tuple (by simpa using h2.length) fun i h h'=>?_;obtain⟨v',h3,h4⟩:=h2.get i _ (by simpa using List.getElem?_eq_getElem (by simpa using h));have:vs'.toArray[i]=v':=by simpa[List.getElem?_eq_some_iff]using (List.getElem?_eq_some_iff.1 h3).2
   rw[this];exact h4
 ·cases h
theorem frame0_get:∀(vs:List Value) (i t:Nat) (v:Value),(frame0 i vs).get t=some v→i≤t∧vs[t-i]?=some v
 |[],i,t,v,h=>by simp[frame0,Fr.get]at h
 |x::vs,i,t,v,h=>by
  simp only[frame0,Fr.get_cons]at h;split at h
  ·rename_i e;subst e;simp only[Option.some.injEq]at h;subst h;simp
  ·obtain⟨h1,h2⟩:=frame0_get vs (i+1) t v h;refine⟨by omega,?_⟩;have:t-i=(t-(i+1))+1:=by omega
   rw[this];simpa using h2
structure ProgOK(P:Program)(w0:Start)(gl:List Nat)(C:CProg):Prop where
 globs:∀g∈gl,g<w0.ng
 fn:∀f c,C.fn f=some c→cFunc gl P f c
 prim:∀f p,C.prim f=some p→CallOK P w0 (fun g vs H=>if g=f then p vs H else none)
 draw:∀call,CallOK P w0 call→∀nt,DrawOK P w0 gl nt call
theorem callD_ok{C:CProg}{N:Nat}(hC:ProgOK P w0 gl C):∀d,CallOK P w0 (callD C N d):=by
 intro d;induction d with
 |zero=>intro f vs vs' H v H' μ w h;simp[callD]at h
 |succ d ih=>
  intro f vs vs' H v H' μ w h R hvs o a next Q hn
  simp only[callD]at h;split at h
  ·rename_i p hp;exact hC.prim f p hp f vs vs' H v H' μ w (by simpa using h) R hvs o a next Q hn
  ·split at h
   ·rename_i c hc;obtain⟨fn,body,h1,h2,h3,h4,h5⟩:=hC.fn f c hc;rw[run_enter h1 h5 h2,Oper.upon_enter];refine Calls.mono (calls_of_wp (R:=fun| .returned v',w'=>next (a.put o.dst v') w'|_,_=>False) h1 h2 ?_) ?_
    ·have hfr:FR μ fn.ntmps (frame0 0 vs) {tmps:=vs'.toArray++Array.replicate (fn.ntmps-vs'.toArray.size) undef,defers:=[]}:=by
      refine⟨by simp;omega,rfl,fun t x hx=>?_⟩;obtain⟨_,hx⟩:=frame0_get vs 0 t x hx;obtain⟨x',h6,h7⟩:=hvs.get _ x hx;refine⟨x',?_,h7⟩;have hlt:=(List.getElem?_eq_some_iff.1 h6).1;simp only[Nat.sub_zero]at h6 hlt;rw[Array.getElem?_append_left (by simpa using hlt)];simpa using h6
     have hk:KOK P w0 fn.ntmps μ H (v,H') (retK c.results) (fun a1 w1=>a1.defers=[]∧∃x,(results fn a1.tmps).run P w1=.ok x w1∧next (a.put o.dst x) w1):=by intro μ1 fr1 H1 a1 w1 k1 k2 k3 k4;obtain⟨x,h6,h7,rfl⟩:=results_ok k2 k3 h4 k1;exact⟨k3.2.1,x,h6,hn x μ1 w1 h7 k2 k4⟩
     refine run_ok (N:=N) ih (hC.draw _ ih _) hC.globs c.body body h3 (retK c.results) [] (retK c.results) _ μ _ H _ w h R hfr (Ext.refl _ _) ?_ ?_ ?_
     ·exact hk
     ·intro id μ1 fr1 H1 a1 w1 k1;simp[look]at k1
     ·exact hk
    ·intro e w' hR;cases e with
     |returned x=>exact hR
     |panicked ch=>exact hR.elim
     |outgrown=>exact hR.elim
   ·cases h
end
section
variable{κ T:Type}{ap:T→κ→Res}
def Alg(ap:T→κ→Res)(f:κ→Res):Prop:=(∀K,f K=none)∨∃t,∀K,f K=ap t K
theorem Alg.nil:Alg ap (fun _=>none):=.inl fun _=>rfl
theorem Alg.asI{k:IntKind}{v:Value}{g:Int→κ→Res}(h:∀a,Alg ap (g a)):Alg ap (fun K=>Cm.asI k v fun a=>g a K):=by
 cases v;case int k' n=>
  by_cases e:k'=k
  ·subst e;simpa[Cm.asI]using h n
  ·simp[Cm.asI,e];exact .nil
 all_goals exact .nil
theorem Alg.asN{v:Value}{g:Int→κ→Res}(h:∀a,Alg ap (g a)):Alg ap (fun K=>Cm.asN v fun a=>g a K):=by
 cases v;case int k' n=>exact h n
 all_goals exact .nil
theorem Alg.asB{v:Value}{g:Bool→κ→Res}(h:∀a,Alg ap (g a)):Alg ap (fun K=>Cm.asB v fun a=>g a K):=by
 cases v;case bool n=>exact h n
 all_goals exact .nil
theorem Alg.asS{v:Value}{g:ByteArray→κ→Res}(h:∀a,Alg ap (g a)):Alg ap (fun K=>Cm.asS v fun a=>g a K):=by
 cases v;case string n=>exact h n
 all_goals exact .nil
theorem Alg.asP{v:Value}{g:Option Addr→κ→Res}(h:∀a,Alg ap (g a)):Alg ap (fun K=>Cm.asP v fun a=>g a K):=by
 cases v;case pointer n=>exact h n
 all_goals exact .nil
theorem Alg.asA{v:Value}{g:Array Value→κ→Res}(h:∀a,Alg ap (g a)):Alg ap (fun K=>Cm.asA v fun a=>g a K):=by
 cases v;case agg n=>exact h n
 all_goals exact .nil
theorem Alg.asM{v:Value}{g:Option Nat→κ→Res}(h:∀a,Alg ap (g a)):Alg ap (fun K=>Cm.asM v fun a=>g a K):=by
 cases v;case map n=>exact h n
 all_goals exact .nil
theorem Alg.asSl{v:Value}{g:Option Addr→Nat→Nat→κ→Res}(h:∀a n c,Alg ap (g a n c)):Alg ap (fun K=>Cm.asSl v fun a n c=>g a n c K):=by
 cases v;case slice a n c=>exact h a n c
 all_goals exact .nil
theorem Alg.chk{b:Bool}{g:κ→Res}(h:Alg ap g):Alg ap (fun K=>Cm.chk b (g K)):=by
 cases b
 ·exact .nil
 ·exact h
theorem Alg.optK{α:Type}{o:Option α}{g:α→κ→Res}(h:∀a,Alg ap (g a)):Alg ap (fun K=>Cm.optK o fun a=>g a K):=by
 cases o
 ·exact .nil
 ·exact h _
theorem Alg.ite{c:Prop}[Decidable c]{f g:κ→Res}(h:Alg ap f)(h':Alg ap g):Alg ap (fun K=>if c then f K else g K):=by
 by_cases e:c
 ·simpa[e]using h
 ·simpa[e]using h'
theorem Alg.cmpI{op:BinOp}{a b:Int}{g:Bool→κ→Res}(h:∀a,Alg ap (g a)):Alg ap (fun K=>Cm.cmpI op a b fun x=>g x K):=by cases op<;>first|exact h _|exact .nil
theorem Alg.scmpB{op:BinOp}{a b:ByteArray}{g:Bool→κ→Res}(h:∀a,Alg ap (g a)):Alg ap (fun K=>Cm.scmpB op a b fun x=>g x K):=by cases op<;>first|exact h _|exact .nil
theorem Alg.mmL{mx:Bool}{k:IntKind}{g:Int→κ→Res}(h:∀a,Alg ap (g a)):∀{vs:List Value} {a:Int},Alg ap (fun K=>Cm.mmL mx k vs a fun x=>g x K)
 |[],a=>h a
 |_::_,_=>Alg.asI fun _=>Alg.mmL h
theorem Alg.bnds{len cap:Nat}{lo hi mx:Bool}{vs:List Value}{g:Nat→Nat→Nat→κ→Res}(h:∀a b c,Alg ap (g a b c)):Alg ap (fun K=>Cm.bnds len cap lo hi mx vs fun a b c=>g a b c K):=by
 rcases vs with _|⟨x,_|⟨y,_|⟨z,_|⟨u,l⟩⟩⟩⟩<;>cases lo<;>cases hi<;>cases mx;all_goals first
  |exact .nil
  |exact h _ _ _
  |exact Alg.asN fun a=>Alg.ite (h _ _ _) .nil
  |exact Alg.asN fun a=>Alg.asN fun b=>Alg.ite (h _ _ _) .nil
  |exact Alg.asN fun a=>Alg.asN fun b=>Alg.asN fun c=>Alg.ite (h _ _ _) .nil
end
def apV(v:Value)(K:Value→Res):Res:=K v
def apE(p:Value×Heap)(K:Value→Heap→Res):Res:=K p.1 p.2
theorem Alg.v(v:Value):Alg apV (fun K=>K v):=.inr ⟨v,fun _=>rfl⟩
theorem Alg.e(v:Value)(H:Heap):Alg apE (fun K=>K v H):=.inr ⟨(v,H),fun _=>rfl⟩
theorem pure_alg(p:PI)(vs:List Value):Alg apV (pureK p vs):=by
 show Alg apV (fun K=>pureK p vs K);cases p;case arith op k=>rcases vs with _|⟨x,_|⟨y,_|⟨z,l⟩⟩⟩<;>simp only[pureK]<;>cases op<;>(try dsimp only)<;>(repeat (first|exact Alg.v _|exact Alg.e _ _|exact Alg.nil|(refine Alg.asI fun _=>?_)|(refine Alg.asN fun _=>?_)|(refine Alg.asB fun _=>?_)|(refine Alg.asS fun _=>?_)|(refine Alg.asA fun _=>?_)|(refine Alg.asP fun a=>?_;cases a<;>try dsimp only)|(refine Alg.asSl fun a _ _=>?_;cases a<;>try dsimp only)|(refine Alg.chk ?_)|(refine Alg.optK fun _=>?_)|(refine Alg.cmpI fun _=>?_)|(refine Alg.scmpB fun _=>?_)|(refine Alg.mmL fun _=>?_)|(refine Alg.bnds fun _ _ _=>?_)|(refine Alg.ite ?_ ?_)))
 case div op k=>rcases vs with _|⟨x,_|⟨y,_|⟨z,l⟩⟩⟩<;>simp only[pureK]<;>cases op<;>(try dsimp only)<;>(repeat (first|exact Alg.v _|exact Alg.e _ _|exact Alg.nil|(refine Alg.asI fun _=>?_)|(refine Alg.asN fun _=>?_)|(refine Alg.asB fun _=>?_)|(refine Alg.asS fun _=>?_)|(refine Alg.asA fun _=>?_)|(refine Alg.asP fun a=>?_;cases a<;>try dsimp only)|(refine Alg.asSl fun a _ _=>?_;cases a<;>try dsimp only)|(refine Alg.chk ?_)|(refine Alg.optK fun _=>?_)|(refine Alg.cmpI fun _=>?_)|(refine Alg.scmpB fun _=>?_)|(refine Alg.mmL fun _=>?_)|(refine Alg.bnds fun _ _ _=>?_)|(refine Alg.ite ?_ ?_)))
 case shift op k=>rcases vs with _|⟨x,_|⟨y,_|⟨z,l⟩⟩⟩<;>simp only[pureK]<;>cases op<;>(try dsimp only)<;>(repeat (first|exact Alg.v _|exact Alg.e _ _|exact Alg.nil|(refine Alg.asI fun _=>?_)|(refine Alg.asN fun _=>?_)|(refine Alg.asB fun _=>?_)|(refine Alg.asS fun _=>?_)|(refine Alg.asA fun _=>?_)|(refine Alg.asP fun a=>?_;cases a<;>try dsimp only)|(refine Alg.asSl fun a _ _=>?_;cases a<;>try dsimp only)|(refine Alg.chk ?_)|(refine Alg.optK fun _=>?_)|(refine Alg.cmpI fun _=>?_)|(refine Alg.scmpB fun _=>?_)|(refine Alg.mmL fun _=>?_)|(refine Alg.bnds fun _ _ _=>?_)|(refine Alg.ite ?_ ?_)))
 case extract i=>
  rcases vs with _|⟨x,_|⟨y,l⟩⟩<;>simp only[pureK]<;>try exact Alg.nil
  cases x<;>(try dsimp only)<;>(repeat (first|exact Alg.v _|exact Alg.e _ _|exact Alg.nil|(refine Alg.asI fun _=>?_)|(refine Alg.asN fun _=>?_)|(refine Alg.asB fun _=>?_)|(refine Alg.asS fun _=>?_)|(refine Alg.asA fun _=>?_)|(refine Alg.asP fun a=>?_;cases a<;>try dsimp only)|(refine Alg.asSl fun a _ _=>?_;cases a<;>try dsimp only)|(refine Alg.chk ?_)|(refine Alg.optK fun _=>?_)|(refine Alg.cmpI fun _=>?_)|(refine Alg.scmpB fun _=>?_)|(refine Alg.mmL fun _=>?_)|(refine Alg.bnds fun _ _ _=>?_)|(refine Alg.ite ?_ ?_)))
 case nilCk=>
  rcases vs with _|⟨x,_|⟨y,l⟩⟩<;>simp only[pureK]<;>try exact Alg.nil
  cases x<;>try dsimp only
  case pointer a=>cases a<;>(try dsimp only)<;>(repeat (first|exact Alg.v _|exact Alg.e _ _|exact Alg.nil|(refine Alg.asI fun _=>?_)|(refine Alg.asN fun _=>?_)|(refine Alg.asB fun _=>?_)|(refine Alg.asS fun _=>?_)|(refine Alg.asA fun _=>?_)|(refine Alg.asP fun a=>?_;cases a<;>try dsimp only)|(refine Alg.asSl fun a _ _=>?_;cases a<;>try dsimp only)|(refine Alg.chk ?_)|(refine Alg.optK fun _=>?_)|(refine Alg.cmpI fun _=>?_)|(refine Alg.scmpB fun _=>?_)|(refine Alg.mmL fun _=>?_)|(refine Alg.bnds fun _ _ _=>?_)|(refine Alg.ite ?_ ?_)))
  all_goals (repeat (first|exact Alg.v _|exact Alg.e _ _|exact Alg.nil|(refine Alg.asI fun _=>?_)|(refine Alg.asN fun _=>?_)|(refine Alg.asB fun _=>?_)|(refine Alg.asS fun _=>?_)|(refine Alg.asA fun _=>?_)|(refine Alg.asP fun a=>?_;cases a<;>try dsimp only)|(refine Alg.asSl fun a _ _=>?_;cases a<;>try dsimp only)|(refine Alg.chk ?_)|(refine Alg.optK fun _=>?_)|(refine Alg.cmpI fun _=>?_)|(refine Alg.scmpB fun _=>?_)|(refine Alg.mmL fun _=>?_)|(refine Alg.bnds fun _ _ _=>?_)|(refine Alg.ite ?_ ?_)))
 case subS lo hi=>rcases vs with _|⟨x,l⟩<;>simp only[pureK]<;>(repeat (first|exact Alg.v _|exact Alg.e _ _|exact Alg.nil|(refine Alg.asI fun _=>?_)|(refine Alg.asN fun _=>?_)|(refine Alg.asB fun _=>?_)|(refine Alg.asS fun _=>?_)|(refine Alg.asA fun _=>?_)|(refine Alg.asP fun a=>?_;cases a<;>try dsimp only)|(refine Alg.asSl fun a _ _=>?_;cases a<;>try dsimp only)|(refine Alg.chk ?_)|(refine Alg.optK fun _=>?_)|(refine Alg.cmpI fun _=>?_)|(refine Alg.scmpB fun _=>?_)|(refine Alg.mmL fun _=>?_)|(refine Alg.bnds fun _ _ _=>?_)|(refine Alg.ite ?_ ?_)))
 case subAp n size lo hi mx=>rcases vs with _|⟨x,l⟩<;>simp only[pureK]<;>(repeat (first|exact Alg.v _|exact Alg.e _ _|exact Alg.nil|(refine Alg.asI fun _=>?_)|(refine Alg.asN fun _=>?_)|(refine Alg.asB fun _=>?_)|(refine Alg.asS fun _=>?_)|(refine Alg.asA fun _=>?_)|(refine Alg.asP fun a=>?_;cases a<;>try dsimp only)|(refine Alg.asSl fun a _ _=>?_;cases a<;>try dsimp only)|(refine Alg.chk ?_)|(refine Alg.optK fun _=>?_)|(refine Alg.cmpI fun _=>?_)|(refine Alg.scmpB fun _=>?_)|(refine Alg.mmL fun _=>?_)|(refine Alg.bnds fun _ _ _=>?_)|(refine Alg.ite ?_ ?_)))
 case mm=>rcases vs with _|⟨x,l⟩<;>simp only[pureK]<;>(repeat (first|exact Alg.v _|exact Alg.e _ _|exact Alg.nil|(refine Alg.asI fun _=>?_)|(refine Alg.asN fun _=>?_)|(refine Alg.asB fun _=>?_)|(refine Alg.asS fun _=>?_)|(refine Alg.asA fun _=>?_)|(refine Alg.asP fun a=>?_;cases a<;>try dsimp only)|(refine Alg.asSl fun a _ _=>?_;cases a<;>try dsimp only)|(refine Alg.chk ?_)|(refine Alg.optK fun _=>?_)|(refine Alg.cmpI fun _=>?_)|(refine Alg.scmpB fun _=>?_)|(refine Alg.mmL fun _=>?_)|(refine Alg.bnds fun _ _ _=>?_)|(refine Alg.ite ?_ ?_)))
 case build=>simp only[pureK]<;>(repeat (first|exact Alg.v _|exact Alg.e _ _|exact Alg.nil|(refine Alg.asI fun _=>?_)|(refine Alg.asN fun _=>?_)|(refine Alg.asB fun _=>?_)|(refine Alg.asS fun _=>?_)|(refine Alg.asA fun _=>?_)|(refine Alg.asP fun a=>?_;cases a<;>try dsimp only)|(refine Alg.asSl fun a _ _=>?_;cases a<;>try dsimp only)|(refine Alg.chk ?_)|(refine Alg.optK fun _=>?_)|(refine Alg.cmpI fun _=>?_)|(refine Alg.scmpB fun _=>?_)|(refine Alg.mmL fun _=>?_)|(refine Alg.bnds fun _ _ _=>?_)|(refine Alg.ite ?_ ?_)))
 case mkFunc=>simp only[pureK]<;>(repeat (first|exact Alg.v _|exact Alg.e _ _|exact Alg.nil|(refine Alg.asI fun _=>?_)|(refine Alg.asN fun _=>?_)|(refine Alg.asB fun _=>?_)|(refine Alg.asS fun _=>?_)|(refine Alg.asA fun _=>?_)|(refine Alg.asP fun a=>?_;cases a<;>try dsimp only)|(refine Alg.asSl fun a _ _=>?_;cases a<;>try dsimp only)|(refine Alg.chk ?_)|(refine Alg.optK fun _=>?_)|(refine Alg.cmpI fun _=>?_)|(refine Alg.scmpB fun _=>?_)|(refine Alg.mmL fun _=>?_)|(refine Alg.bnds fun _ _ _=>?_)|(refine Alg.ite ?_ ?_)))
 all_goals rcases vs with _|⟨x,_|⟨y,_|⟨z,l⟩⟩⟩<;>simp only[pureK]<;>(repeat (first|exact Alg.v _|exact Alg.e _ _|exact Alg.nil|(refine Alg.asI fun _=>?_)|(refine Alg.asN fun _=>?_)|(refine Alg.asB fun _=>?_)|(refine Alg.asS fun _=>?_)|(refine Alg.asA fun _=>?_)|(refine Alg.asP fun a=>?_;cases a<;>try dsimp only)|(refine Alg.asSl fun a _ _=>?_;cases a<;>try dsimp only)|(refine Alg.chk ?_)|(refine Alg.optK fun _=>?_)|(refine Alg.cmpI fun _=>?_)|(refine Alg.scmpB fun _=>?_)|(refine Alg.mmL fun _=>?_)|(refine Alg.bnds fun _ _ _=>?_)|(refine Alg.ite ?_ ?_)))
section
variable{κ T:Type}{ap:T→κ→Res}
theorem Alg.cast0{d:Kd0}{v:Value}{g:Value→κ→Res}(h:∀a,Alg ap (g a)):Alg ap (fun K=>Cm.cast0 d v fun x=>g x K):=by
 cases d<;>simp only[Cm.cast0];case any=>exact h _
 case int k=>exact Alg.asI fun _=>h _
 case bool=>exact Alg.asB fun _=>h _
 case str=>exact Alg.asS fun _=>h _
 case ptr=>exact Alg.asP fun _=>h _
 case sl=>exact Alg.asSl fun _ _ _=>h _
 case map=>exact Alg.asM fun _=>h _
 case agg=>exact Alg.asA fun _=>h _
theorem Alg.castL:∀{ds:List Kd0} {vs:List Value} {g:List Value→κ→Res} (_:∀a,Alg ap (g a)),Alg ap (fun K=>Cm.castL ds vs fun x=>g x K)
 |[],[],_,h=>h _
 |[],_::_,_,_=>.nil
 |_::_,[],_,_=>.nil
 |_::_,_::_,_,h=>Alg.cast0 fun _=>Alg.castL fun _=>h _
theorem Alg.cast{d:Kd}{v:Value}{g:Value→κ→Res}(h:∀a,Alg ap (g a)):Alg ap (fun K=>Cm.cast d v fun x=>g x K):=by
 cases d with
 |one d=>exact Alg.cast0 h
 |tup ds=>
  cases v;case tuple vs=>exact Alg.castL fun _=>h _
  all_goals exact .nil
theorem Alg.callK{r:Res}{g:Value→Heap→κ→Res}(h:∀v H,Alg ap (g v H)):Alg ap (fun K=>Cm.callK r fun v H=>g v H K):=by
 rcases r with _|⟨v,H⟩
 ·exact .nil
 ·exact h v H
theorem Alg.bind{κ' T':Type}{ap':T'→κ'→Res}{f:κ'→Res}{g:κ→κ'}(h:Alg ap' f)(h':∀t,Alg ap (fun K=>ap' t (g K))):Alg ap (fun K=>f (g K)):=by
 rcases h with h|⟨t,h⟩
 ·exact .inl fun K=>h _
 ·rcases h' t with h2|⟨t2,h2⟩
  ·exact .inl fun K=>(h _).trans (h2 K)
  ·exact .inr ⟨t2,fun K=>(h _).trans (h2 K)⟩
end
theorem append_alg(elem:TypeId)(size bytes:Nat)(str:Bool)(s x:Value)(H:Heap):Alg apE (appendK elem size bytes str s x H):=by
 show Alg apE (fun K=>appendK elem size bytes str s x H K);unfold appendK;refine Alg.asSl fun a len cc=>Alg.optK fun n=>Alg.optK fun new=>Alg.ite ?_ (Alg.ite ?_ ?_)
 ·(repeat (first|exact Alg.v _|exact Alg.e _ _|exact Alg.nil|(refine Alg.asI fun _=>?_)|(refine Alg.asN fun _=>?_)|(refine Alg.asB fun _=>?_)|(refine Alg.asS fun _=>?_)|(refine Alg.asA fun _=>?_)|(refine Alg.asP fun a=>?_;cases a<;>try dsimp only)|(refine Alg.asSl fun a _ _=>?_;cases a<;>try dsimp only)|(refine Alg.chk ?_)|(refine Alg.optK fun _=>?_)|(refine Alg.cmpI fun _=>?_)|(refine Alg.scmpB fun _=>?_)|(refine Alg.mmL fun _=>?_)|(refine Alg.bnds fun _ _ _=>?_)|(refine Alg.ite ?_ ?_)))
  cases a<;>dsimp only<;>(repeat (first|exact Alg.v _|exact Alg.e _ _|exact Alg.nil|(refine Alg.asI fun _=>?_)|(refine Alg.asN fun _=>?_)|(refine Alg.asB fun _=>?_)|(refine Alg.asS fun _=>?_)|(refine Alg.asA fun _=>?_)|(refine Alg.asP fun a=>?_;cases a<;>try dsimp only)|(refine Alg.asSl fun a _ _=>?_;cases a<;>try dsimp only)|(refine Alg.chk ?_)|(refine Alg.optK fun _=>?_)|(refine Alg.cmpI fun _=>?_)|(refine Alg.scmpB fun _=>?_)|(refine Alg.mmL fun _=>?_)|(refine Alg.bnds fun _ _ _=>?_)|(refine Alg.ite ?_ ?_)))
 ·cases a with
  |none=>dsimp only;(repeat (first|exact Alg.v _|exact Alg.e _ _|exact Alg.nil|(refine Alg.asI fun _=>?_)|(refine Alg.asN fun _=>?_)|(refine Alg.asB fun _=>?_)|(refine Alg.asS fun _=>?_)|(refine Alg.asA fun _=>?_)|(refine Alg.asP fun a=>?_;cases a<;>try dsimp only)|(refine Alg.asSl fun a _ _=>?_;cases a<;>try dsimp only)|(refine Alg.chk ?_)|(refine Alg.optK fun _=>?_)|(refine Alg.cmpI fun _=>?_)|(refine Alg.scmpB fun _=>?_)|(refine Alg.mmL fun _=>?_)|(refine Alg.bnds fun _ _ _=>?_)|(refine Alg.ite ?_ ?_)))
  |some ad=>
   dsimp only;rcases ad.spot with _|sp;rotate_left
   ·exact Alg.ite (Alg.e _ _) Alg.nil
   dsimp only;rcases H.get ad.block with _|o
   ·(try dsimp only);(repeat (first|exact Alg.v _|exact Alg.e _ _|exact Alg.nil|(refine Alg.asI fun _=>?_)|(refine Alg.asN fun _=>?_)|(refine Alg.asB fun _=>?_)|(refine Alg.asS fun _=>?_)|(refine Alg.asA fun _=>?_)|(refine Alg.asP fun a=>?_;cases a<;>try dsimp only)|(refine Alg.asSl fun a _ _=>?_;cases a<;>try dsimp only)|(refine Alg.chk ?_)|(refine Alg.optK fun _=>?_)|(refine Alg.cmpI fun _=>?_)|(refine Alg.scmpB fun _=>?_)|(refine Alg.mmL fun _=>?_)|(refine Alg.bnds fun _ _ _=>?_)|(refine Alg.ite ?_ ?_)))
   ·cases o<;>(try dsimp only)<;>(repeat (first|exact Alg.v _|exact Alg.e _ _|exact Alg.nil|(refine Alg.asI fun _=>?_)|(refine Alg.asN fun _=>?_)|(refine Alg.asB fun _=>?_)|(refine Alg.asS fun _=>?_)|(refine Alg.asA fun _=>?_)|(refine Alg.asP fun a=>?_;cases a<;>try dsimp only)|(refine Alg.asSl fun a _ _=>?_;cases a<;>try dsimp only)|(refine Alg.chk ?_)|(refine Alg.optK fun _=>?_)|(refine Alg.cmpI fun _=>?_)|(refine Alg.scmpB fun _=>?_)|(refine Alg.mmL fun _=>?_)|(refine Alg.bnds fun _ _ _=>?_)|(refine Alg.ite ?_ ?_)))
 ·(repeat (first|exact Alg.v _|exact Alg.e _ _|exact Alg.nil|(refine Alg.asI fun _=>?_)|(refine Alg.asN fun _=>?_)|(refine Alg.asB fun _=>?_)|(refine Alg.asS fun _=>?_)|(refine Alg.asA fun _=>?_)|(refine Alg.asP fun a=>?_;cases a<;>try dsimp only)|(refine Alg.asSl fun a _ _=>?_;cases a<;>try dsimp only)|(refine Alg.chk ?_)|(refine Alg.optK fun _=>?_)|(refine Alg.cmpI fun _=>?_)|(refine Alg.scmpB fun _=>?_)|(refine Alg.mmL fun _=>?_)|(refine Alg.bnds fun _ _ _=>?_)|(refine Alg.ite ?_ ?_)))
theorem eff_alg(e:EI)(vs:List Value)(H:Heap):Alg apE (effK e vs H):=by
 show Alg apE (fun K=>effK e vs H K);have nl:∀{f:(Value→Heap→Res)→Res},(∀K,f K=none)→Alg apE f:=fun h=>.inl h;cases e;case buildSl=>simp only[effK];(repeat (first|exact Alg.v _|exact Alg.e _ _|exact Alg.nil|(refine Alg.asI fun _=>?_)|(refine Alg.asN fun _=>?_)|(refine Alg.asB fun _=>?_)|(refine Alg.asS fun _=>?_)|(refine Alg.asA fun _=>?_)|(refine Alg.asP fun a=>?_;cases a<;>try dsimp only)|(refine Alg.asSl fun a _ _=>?_;cases a<;>try dsimp only)|(refine Alg.chk ?_)|(refine Alg.optK fun _=>?_)|(refine Alg.cmpI fun _=>?_)|(refine Alg.scmpB fun _=>?_)|(refine Alg.mmL fun _=>?_)|(refine Alg.bnds fun _ _ _=>?_)|(refine Alg.ite ?_ ?_)))
 case mapE=>simp only[effK];exact Alg.optK fun _=>Alg.e _ _
 all_goals rcases vs with _|⟨x,_|⟨y,_|⟨z,l⟩⟩⟩
 all_goals try exact nl fun _=>rfl
 all_goals try (simp only[effK];done)
 case append.cons.cons.nil=>simp only[effK];exact append_alg ..
 case alloc.nil=>simp only[effK];(repeat (first|exact Alg.v _|exact Alg.e _ _|exact Alg.nil|(refine Alg.asI fun _=>?_)|(refine Alg.asN fun _=>?_)|(refine Alg.asB fun _=>?_)|(refine Alg.asS fun _=>?_)|(refine Alg.asA fun _=>?_)|(refine Alg.asP fun a=>?_;cases a<;>try dsimp only)|(refine Alg.asSl fun a _ _=>?_;cases a<;>try dsimp only)|(refine Alg.chk ?_)|(refine Alg.optK fun _=>?_)|(refine Alg.cmpI fun _=>?_)|(refine Alg.scmpB fun _=>?_)|(refine Alg.mmL fun _=>?_)|(refine Alg.bnds fun _ _ _=>?_)|(refine Alg.ite ?_ ?_)))
 case box.cons.nil=>simp only[effK];(repeat (first|exact Alg.v _|exact Alg.e _ _|exact Alg.nil|(refine Alg.asI fun _=>?_)|(refine Alg.asN fun _=>?_)|(refine Alg.asB fun _=>?_)|(refine Alg.asS fun _=>?_)|(refine Alg.asA fun _=>?_)|(refine Alg.asP fun a=>?_;cases a<;>try dsimp only)|(refine Alg.asSl fun a _ _=>?_;cases a<;>try dsimp only)|(refine Alg.chk ?_)|(refine Alg.optK fun _=>?_)|(refine Alg.cmpI fun _=>?_)|(refine Alg.scmpB fun _=>?_)|(refine Alg.mmL fun _=>?_)|(refine Alg.bnds fun _ _ _=>?_)|(refine Alg.ite ?_ ?_)))
 case mkSl.cons.cons.nil=>simp only[effK];(repeat (first|exact Alg.v _|exact Alg.e _ _|exact Alg.nil|(refine Alg.asI fun _=>?_)|(refine Alg.asN fun _=>?_)|(refine Alg.asB fun _=>?_)|(refine Alg.asS fun _=>?_)|(refine Alg.asA fun _=>?_)|(refine Alg.asP fun a=>?_;cases a<;>try dsimp only)|(refine Alg.asSl fun a _ _=>?_;cases a<;>try dsimp only)|(refine Alg.chk ?_)|(refine Alg.optK fun _=>?_)|(refine Alg.cmpI fun _=>?_)|(refine Alg.scmpB fun _=>?_)|(refine Alg.mmL fun _=>?_)|(refine Alg.bnds fun _ _ _=>?_)|(refine Alg.ite ?_ ?_)))
 case clearSl.cons.nil=>simp only[effK];refine Alg.asSl fun a _ _=>Alg.ite (Alg.e _ _) ?_;cases a<;>dsimp only<;>(repeat (first|exact Alg.v _|exact Alg.e _ _|exact Alg.nil|(refine Alg.asI fun _=>?_)|(refine Alg.asN fun _=>?_)|(refine Alg.asB fun _=>?_)|(refine Alg.asS fun _=>?_)|(refine Alg.asA fun _=>?_)|(refine Alg.asP fun a=>?_;cases a<;>try dsimp only)|(refine Alg.asSl fun a _ _=>?_;cases a<;>try dsimp only)|(refine Alg.chk ?_)|(refine Alg.optK fun _=>?_)|(refine Alg.cmpI fun _=>?_)|(refine Alg.scmpB fun _=>?_)|(refine Alg.mmL fun _=>?_)|(refine Alg.bnds fun _ _ _=>?_)|(refine Alg.ite ?_ ?_)))
 case copy.cons.cons.nil=>simp only[effK];refine Alg.asSl fun a _ _=>Alg.optK fun _=>Alg.ite (Alg.e _ _) (Alg.ite (Alg.optK fun _=>?_) Alg.nil);cases a<;>dsimp only<;>(repeat (first|exact Alg.v _|exact Alg.e _ _|exact Alg.nil|(refine Alg.asI fun _=>?_)|(refine Alg.asN fun _=>?_)|(refine Alg.asB fun _=>?_)|(refine Alg.asS fun _=>?_)|(refine Alg.asA fun _=>?_)|(refine Alg.asP fun a=>?_;cases a<;>try dsimp only)|(refine Alg.asSl fun a _ _=>?_;cases a<;>try dsimp only)|(refine Alg.chk ?_)|(refine Alg.optK fun _=>?_)|(refine Alg.cmpI fun _=>?_)|(refine Alg.scmpB fun _=>?_)|(refine Alg.mmL fun _=>?_)|(refine Alg.bnds fun _ _ _=>?_)|(refine Alg.ite ?_ ?_)))
 case store.cons.nil=>cases x<;>first|exact nl fun _=>rfl|(rename_i a;cases a<;>exact nl fun _=>rfl)
 case store.cons.cons.nil n=>
  cases x<;>try exact nl fun _=>rfl
  rename_i a;cases a<;>try exact nl fun _=>rfl
  simp only[effK];refine Alg.ite ?_ ?_
  ·rcases cellsL y with _|⟨u,_|⟨u',l⟩⟩<;>dsimp only<;>(repeat (first|exact Alg.v _|exact Alg.e _ _|exact Alg.nil|(refine Alg.asI fun _=>?_)|(refine Alg.asN fun _=>?_)|(refine Alg.asB fun _=>?_)|(refine Alg.asS fun _=>?_)|(refine Alg.asA fun _=>?_)|(refine Alg.asP fun a=>?_;cases a<;>try dsimp only)|(refine Alg.asSl fun a _ _=>?_;cases a<;>try dsimp only)|(refine Alg.chk ?_)|(refine Alg.optK fun _=>?_)|(refine Alg.cmpI fun _=>?_)|(refine Alg.scmpB fun _=>?_)|(refine Alg.mmL fun _=>?_)|(refine Alg.bnds fun _ _ _=>?_)|(refine Alg.ite ?_ ?_)))
  ·(repeat (first|exact Alg.v _|exact Alg.e _ _|exact Alg.nil|(refine Alg.asI fun _=>?_)|(refine Alg.asN fun _=>?_)|(refine Alg.asB fun _=>?_)|(refine Alg.asS fun _=>?_)|(refine Alg.asA fun _=>?_)|(refine Alg.asP fun a=>?_;cases a<;>try dsimp only)|(refine Alg.asSl fun a _ _=>?_;cases a<;>try dsimp only)|(refine Alg.chk ?_)|(refine Alg.optK fun _=>?_)|(refine Alg.cmpI fun _=>?_)|(refine Alg.scmpB fun _=>?_)|(refine Alg.mmL fun _=>?_)|(refine Alg.bnds fun _ _ _=>?_)|(refine Alg.ite ?_ ?_)))
 case store.cons.cons.cons=>cases x<;>first|exact nl fun _=>rfl|(rename_i a;cases a<;>exact nl fun _=>rfl)
 case rangeS.cons.nil=>cases x<;>first|exact nl fun _=>rfl|(simp only[effK];(repeat (first|exact Alg.v _|exact Alg.e _ _|exact Alg.nil|(refine Alg.asI fun _=>?_)|(refine Alg.asN fun _=>?_)|(refine Alg.asB fun _=>?_)|(refine Alg.asS fun _=>?_)|(refine Alg.asA fun _=>?_)|(refine Alg.asP fun a=>?_;cases a<;>try dsimp only)|(refine Alg.asSl fun a _ _=>?_;cases a<;>try dsimp only)|(refine Alg.chk ?_)|(refine Alg.optK fun _=>?_)|(refine Alg.cmpI fun _=>?_)|(refine Alg.scmpB fun _=>?_)|(refine Alg.mmL fun _=>?_)|(refine Alg.bnds fun _ _ _=>?_)|(refine Alg.ite ?_ ?_))))
 case strBytes.cons.nil=>cases x<;>first|exact nl fun _=>rfl|(simp only[effK];(repeat (first|exact Alg.v _|exact Alg.e _ _|exact Alg.nil|(refine Alg.asI fun _=>?_)|(refine Alg.asN fun _=>?_)|(refine Alg.asB fun _=>?_)|(refine Alg.asS fun _=>?_)|(refine Alg.asA fun _=>?_)|(refine Alg.asP fun a=>?_;cases a<;>try dsimp only)|(refine Alg.asSl fun a _ _=>?_;cases a<;>try dsimp only)|(refine Alg.chk ?_)|(refine Alg.optK fun _=>?_)|(refine Alg.cmpI fun _=>?_)|(refine Alg.scmpB fun _=>?_)|(refine Alg.mmL fun _=>?_)|(refine Alg.bnds fun _ _ _=>?_)|(refine Alg.ite ?_ ?_))))
 case strRunes.cons.nil=>cases x<;>first|exact nl fun _=>rfl|(simp only[effK];(repeat (first|exact Alg.v _|exact Alg.e _ _|exact Alg.nil|(refine Alg.asI fun _=>?_)|(refine Alg.asN fun _=>?_)|(refine Alg.asB fun _=>?_)|(refine Alg.asS fun _=>?_)|(refine Alg.asA fun _=>?_)|(refine Alg.asP fun a=>?_;cases a<;>try dsimp only)|(refine Alg.asSl fun a _ _=>?_;cases a<;>try dsimp only)|(refine Alg.chk ?_)|(refine Alg.optK fun _=>?_)|(refine Alg.cmpI fun _=>?_)|(refine Alg.scmpB fun _=>?_)|(refine Alg.mmL fun _=>?_)|(refine Alg.bnds fun _ _ _=>?_)|(refine Alg.ite ?_ ?_))))
 case nextS.cons.nil=>
  cases x<;>try exact nl fun _=>rfl
  rename_i a;cases a<;>try exact nl fun _=>rfl
  rename_i a;simp only[effK];rcases H.get a.block with _|o
  ·(try dsimp only);(repeat (first|exact Alg.v _|exact Alg.e _ _|exact Alg.nil|(refine Alg.asI fun _=>?_)|(refine Alg.asN fun _=>?_)|(refine Alg.asB fun _=>?_)|(refine Alg.asS fun _=>?_)|(refine Alg.asA fun _=>?_)|(refine Alg.asP fun a=>?_;cases a<;>try dsimp only)|(refine Alg.asSl fun a _ _=>?_;cases a<;>try dsimp only)|(refine Alg.chk ?_)|(refine Alg.optK fun _=>?_)|(refine Alg.cmpI fun _=>?_)|(refine Alg.scmpB fun _=>?_)|(refine Alg.mmL fun _=>?_)|(refine Alg.bnds fun _ _ _=>?_)|(refine Alg.ite ?_ ?_)))
  ·cases o<;>(try dsimp only)<;>(repeat (first|exact Alg.v _|exact Alg.e _ _|exact Alg.nil|(refine Alg.asI fun _=>?_)|(refine Alg.asN fun _=>?_)|(refine Alg.asB fun _=>?_)|(refine Alg.asS fun _=>?_)|(refine Alg.asA fun _=>?_)|(refine Alg.asP fun a=>?_;cases a<;>try dsimp only)|(refine Alg.asSl fun a _ _=>?_;cases a<;>try dsimp only)|(refine Alg.chk ?_)|(refine Alg.optK fun _=>?_)|(refine Alg.cmpI fun _=>?_)|(refine Alg.scmpB fun _=>?_)|(refine Alg.mmL fun _=>?_)|(refine Alg.bnds fun _ _ _=>?_)|(refine Alg.ite ?_ ?_)))
 case markStr.cons.nil=>
  cases x<;>try exact nl fun _=>rfl
  rename_i a n c;cases a with
  |none=>exact nl fun _=>rfl
  |some a=>
   simp only[effK];rcases (if a.spot.isSome=true then none else H.get a.block)with _|o
   ·(try dsimp only);exact Alg.nil
   ·cases o<;>(try dsimp only)<;>(repeat (first|exact Alg.v _|exact Alg.e _ _|exact Alg.nil|(refine Alg.asI fun _=>?_)|(refine Alg.asN fun _=>?_)|(refine Alg.asB fun _=>?_)|(refine Alg.asS fun _=>?_)|(refine Alg.asA fun _=>?_)|(refine Alg.asP fun a=>?_;cases a<;>try dsimp only)|(refine Alg.asSl fun a _ _=>?_;cases a<;>try dsimp only)|(refine Alg.chk ?_)|(refine Alg.optK fun _=>?_)|(refine Alg.cmpI fun _=>?_)|(refine Alg.scmpB fun _=>?_)|(refine Alg.mmL fun _=>?_)|(refine Alg.bnds fun _ _ _=>?_)|(refine Alg.ite ?_ ?_)))
 case slData.cons.nil=>
  cases x<;>try exact nl fun _=>rfl
  rename_i a _ _;cases a<;>simp only[effK]<;>(repeat (first|exact Alg.v _|exact Alg.e _ _|exact Alg.nil|(refine Alg.asI fun _=>?_)|(refine Alg.asN fun _=>?_)|(refine Alg.asB fun _=>?_)|(refine Alg.asS fun _=>?_)|(refine Alg.asA fun _=>?_)|(refine Alg.asP fun a=>?_;cases a<;>try dsimp only)|(refine Alg.asSl fun a _ _=>?_;cases a<;>try dsimp only)|(refine Alg.chk ?_)|(refine Alg.optK fun _=>?_)|(refine Alg.cmpI fun _=>?_)|(refine Alg.scmpB fun _=>?_)|(refine Alg.mmL fun _=>?_)|(refine Alg.bnds fun _ _ _=>?_)|(refine Alg.ite ?_ ?_)))
 case unsStr.cons.nil=>cases x<;>try exact nl fun _=>rfl
 case unsStr.cons.cons.nil=>
  cases x<;>try exact nl fun _=>rfl
  rename_i a;cases y<;>try exact nl fun _=>rfl
  cases a<;>simp only[effK]
  ·(repeat (first|exact Alg.v _|exact Alg.e _ _|exact Alg.nil|(refine Alg.asI fun _=>?_)|(refine Alg.asN fun _=>?_)|(refine Alg.asB fun _=>?_)|(refine Alg.asS fun _=>?_)|(refine Alg.asA fun _=>?_)|(refine Alg.asP fun a=>?_;cases a<;>try dsimp only)|(refine Alg.asSl fun a _ _=>?_;cases a<;>try dsimp only)|(refine Alg.chk ?_)|(refine Alg.optK fun _=>?_)|(refine Alg.cmpI fun _=>?_)|(refine Alg.scmpB fun _=>?_)|(refine Alg.mmL fun _=>?_)|(refine Alg.bnds fun _ _ _=>?_)|(refine Alg.ite ?_ ?_)))
  ·rename_i a;refine Alg.ite (Alg.e _ _) (Alg.ite ?_ Alg.nil);rcases H.get a.block with _|o
   ·(try dsimp only);(repeat (first|exact Alg.v _|exact Alg.e _ _|exact Alg.nil|(refine Alg.asI fun _=>?_)|(refine Alg.asN fun _=>?_)|(refine Alg.asB fun _=>?_)|(refine Alg.asS fun _=>?_)|(refine Alg.asA fun _=>?_)|(refine Alg.asP fun a=>?_;cases a<;>try dsimp only)|(refine Alg.asSl fun a _ _=>?_;cases a<;>try dsimp only)|(refine Alg.chk ?_)|(refine Alg.optK fun _=>?_)|(refine Alg.cmpI fun _=>?_)|(refine Alg.scmpB fun _=>?_)|(refine Alg.mmL fun _=>?_)|(refine Alg.bnds fun _ _ _=>?_)|(refine Alg.ite ?_ ?_)))
   ·cases o<;>(try dsimp only)<;>(repeat (first|exact Alg.v _|exact Alg.e _ _|exact Alg.nil|(refine Alg.asI fun _=>?_)|(refine Alg.asN fun _=>?_)|(refine Alg.asB fun _=>?_)|(refine Alg.asS fun _=>?_)|(refine Alg.asA fun _=>?_)|(refine Alg.asP fun a=>?_;cases a<;>try dsimp only)|(refine Alg.asSl fun a _ _=>?_;cases a<;>try dsimp only)|(refine Alg.chk ?_)|(refine Alg.optK fun _=>?_)|(refine Alg.cmpI fun _=>?_)|(refine Alg.scmpB fun _=>?_)|(refine Alg.mmL fun _=>?_)|(refine Alg.bnds fun _ _ _=>?_)|(refine Alg.ite ?_ ?_)))
 all_goals cases x<;>first|exact nl fun _=>rfl|(rename_i a;cases a<;>exact nl fun _=>rfl)|(cases y<;>first|exact nl fun _=>rfl|(rename_i a _ _;cases a<;>exact nl fun _=>rfl))
end Go.Cm

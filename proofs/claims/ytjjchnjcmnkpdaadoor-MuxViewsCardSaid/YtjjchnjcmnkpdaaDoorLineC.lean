/-
  layout: trees, and a walk over one.
-/
import Derived.Test.YtjjchnjcmnkpdaaDoorLineB
import Derived.Test.YtjjchnjcmnkpdaaDoorDecA
import Derived.Test.YtjjchnjcmnkpdaaDoorCmH
import Derived.Test.YtjjchnjcmnkpdaaDoorCmF
namespace Go.Proofs.YtjjchnjcmnkpdaaDoor.dec
open Go Go.Cm
attribute [local congr] optK_congr asI_congr asN_congr asB_congr asS_congr asP_congr asA_congr asSL_congr callK_congr castT_congr chk_congr
inductive AT where
 |leaf (x:Nat) (p:Int)
 |nd (x:Nat) (ac:Bool) (pt:Int) (l r:AT)
def AT.x:AT→Nat
 | .leaf x _=>x
 | .nd x _ _ _ _=>x
def AT.ht:AT→Nat
 | .leaf _ _=>0
 | .nd _ _ _ l r=>max l.ht r.ht+1
def AT.dom:AT→List Nat
 | .leaf x _=>[x]
 | .nd x _ _ l r=>x::(l.dom++r.dom)
def TR(H:Heap):AT→Prop
 | .leaf x p=>x<H.next∧∃ac pt,H.get x=some (.cells (ndC p none none ac pt) t_105 false 0 false)
 | .nd x ac pt l r=>x<H.next∧(∃p,H.get x=some (.cells (ndC p (some ⟨l.x,0,none⟩) (some ⟨r.x,0,none⟩) ac pt) t_105 false 0 false))∧TR H l∧TR H r
theorem TR.lt{H:Heap}:∀{t:AT},TR H t→t.x<H.next
 | .leaf _ _,h=>h.1
 | .nd _ _ _ _ _,h=>h.1
theorem TR.keep{S:Nat→Prop}{H H':Heap}(hk:Keep S H H'):∀{t:AT},TR H t→(∀k∈t.dom,¬S k)→TR H' t
 | .leaf x p,⟨h1,ac,pt,h2⟩,hn=>⟨Nat.lt_of_lt_of_le h1 hk.1,ac,pt,(hk.2 x h1 (hn x (by simp[AT.dom]))).trans h2⟩
 | .nd x ac pt l r,⟨h1,⟨p,h2⟩,h3,h4⟩,hn=>⟨Nat.lt_of_lt_of_le h1 hk.1,⟨p,(hk.2 x h1 (hn x (by simp[AT.dom]))).trans h2⟩,TR.keep hk h3 (fun k hk'=>hn k (by simp[AT.dom,hk'])),TR.keep hk h4 (fun k hk'=>hn k (by simp[AT.dom,hk']))⟩
def AT.walkP(vis:AT→Rc→List Value):AT→Rc→List Value
 | .leaf x p,b=>vis (.leaf x p) b
 | .nd x ac pt l r,b=>vis (.nd x ac pt l r) b++(l.walkP vis (partsP ac pt b).1++r.walkP vis (partsP ac pt b).2)
theorem sliceP_ok{ac:Bool}{r:Rc}(h:r.ok){f m:Int}(hf:0≤f)(hm:0≤m)(hw:f+m≤wideP ac r):(sliceP ac r f m).ok:=by
 obtain⟨a,b,c,d,e,g⟩:=h;unfold sliceP wideP at*;cases ac
 ·rw[if_neg (by decide)]at*;exact⟨by show 0≤r.row+f;omega,b,hm,d,by show r.row+f+m≤100000;omega,g⟩
 ·rw[if_pos rfl]at*;exact⟨a,by show 0≤r.col+f;omega,c,hm,e,by show r.col+f+m≤100000;omega⟩
theorem partsP_ok{ac:Bool}{pt:Int}{r:Rc}(h:r.ok):(partsP ac pt r).1.ok∧(partsP ac pt r).2.ok:=by
 obtain⟨w1,w2⟩:=wideP_ok (ac:=ac) h;unfold partsP;by_cases hw:wideP ac r<3
 ·rw[if_pos hw];exact⟨h,sliceP_ok h w1 (by omega) (by omega)⟩
 ·obtain⟨v1,v2⟩:=heldP_ok (pt:=pt) (d:=wideP ac r) (by omega);rw[if_neg hw];exact⟨sliceP_ok h (by omega) (by omega) (by omega),sliceP_ok h (by omega) (by omega) (by omega)⟩
structure Gat(H:Heap)(o:Nat)(ty el:TypeId)(sz:Nat)(s:Sl)(acc:List Value):Prop where
 get:H.get o=some (.cells [s.v] ty false 0 false)
 lt:o<H.next
 whole:Whole H s acc el sz
 apart:¬s.at o
theorem Gat.keep{S:Nat→Prop}{H H':Heap}{o:Nat}{ty el:TypeId}{sz:Nat}{s:Sl}{acc:List Value}(h:Gat H o ty el sz s acc)(hk:Keep S H H')(ho:¬S o)(hs:∀k,s.at k→¬S k):Gat H' o ty el sz s acc:=⟨(hk.2 o h.lt ho).trans h.get,Nat.lt_of_lt_of_le h.lt hk.1,h.whole.keep hk hs,h.apart⟩
def Vis(D f o:Nat)(ty el:TypeId)(sz:Nat)(vis:AT→Rc→List Value):Prop:=∀(d:Nat) (H:Heap) (t:AT) (b:Rc) (s:Sl) (acc:List Value),TR H t→b.ok→Gat H o ty el sz s acc→o∉t.dom→(∀k,s.at k→k∉t.dom)→acc.length≤1000000→∃s' H',X (D+d) f [P0 t.x,.agg ⟨b.l⟩,P0 o] H=some (.tuple #[],H')∧Gat H' o ty el sz s' (acc++vis t b)∧Keep (fun k=>k=o∨s.at k) H H'∧((s'=s)∨∀k,s'.at k→H.next≤k)
theorem lyLeaf_s(d:Nat){H:Heap}:∀{t:AT},TR H t→X (d+1) n_43 [P0 t.x] H=some (.bool (match t with| .leaf _ _=>true|_=>false),H)
 | .leaf x p,⟨_,ac,pt,h⟩=>by rw[show(AT.leaf x p).x=x from rfl,layout_node_leaf_eq,(ld1_s h).trans (show _=some (Value.pointer none)from rfl)];simp only[optK_s,asP_s,Option.isNone_none]
 | .nd x ac pt l r,⟨_,⟨p,h⟩,_,_⟩=>by rw[show(AT.nd x ac pt l r).x=x from rfl,layout_node_leaf_eq,(ld1_s h).trans (show _=some (Value.pointer (some ⟨l.x,0,none⟩))from rfl)];simp only[optK_s,asP_s,Option.isNone_some]
theorem TR.dom_lt{H:Heap}:∀{t:AT},TR H t→∀k∈t.dom,k<H.next
 | .leaf x p,h,k,hk=>by simp only[AT.dom,List.mem_singleton]at hk;subst hk;exact h.1
 | .nd x ac pt l r,⟨h1,_,h3,h4⟩,k,hk=>by
   simp only[AT.dom,List.mem_cons,List.mem_append]at hk;rcases hk with rfl|hk|hk
   ·exact h1
   ·exact TR.dom_lt h3 k hk
   ·exact TR.dom_lt h4 k hk
theorem ly_castA(a b:Array Value)(K:List Value→Res):castT [.agg,.agg] (.tuple #[.agg a,.agg b]) K=K [.agg a,.agg b]:=rfl
theorem ly_castA'(a b:Array Value)(K:List Value→Res):castT [.agg,.agg] (.tuple ⟨[.agg a,.agg b]⟩) K=K [.agg a,.agg b]:=rfl
theorem ly_ldA{H:Heap}{b:Nat}{x:List Value}{e:TypeId}{o st:Bool}{fz:Nat}(h:H.get b=some (.cells x e o fz st))(hx:x.length=4):ldA H ⟨b,0,none⟩ 4=some (.agg ⟨x⟩):=by have:=ly_rd4 h hx;simp only[readD,if_true]at this;exact this
theorem lyWalk_s{D f o:Nat}{ty el:TypeId}{sz:Nat}{vis:AT→Rc→List Value}(hv:Vis D f o ty el sz vis):∀(t:AT) (d:Nat) (H:Heap) (b:Rc) (s:Sl) (acc:List Value),TR H t→b.ok→Gat H o ty el sz s acc→o∉t.dom→(∀k,s.at k→k∉t.dom)→acc.length+(t.walkP vis b).length≤1000000→
  ∃s' H',X (D+(t.ht+(2+d))+1) n_40 [P0 t.x,.agg ⟨b.l⟩,.func (.func f) #[] #[P0 o]] H=some (.tuple #[],H')∧Gat H' o ty el sz s' (acc++t.walkP vis b)∧Keep (fun k=>k=o∨s.at k) H H'∧((s'=s)∨∀k,s'.at k→H.next≤k):=by
 intro t;induction t with
 |leaf x p=>
  intro d H b s acc ht hb hg ho hs hlen;rw[layout_node_walk_eq,ly_box b.one];have k1:Keep0 H (H.new (.cells b.l t_83 false 0 false)):=Keep.new _ _;have g1:(H.new (.cells b.l t_83 false 0 false)).get H.next=some (.cells b.l t_83 false 0 false):=by simp
  generalize H.new (.cells b.l t_83 false 0 false)=H1 at*;rw[ly_rd4 g1 b.len];simp only[optK_s,asA_s];rw[callvK_s];obtain⟨s',H2,e2,q2,k2,n2⟩:=hv ((AT.leaf x p).ht+(2+d)) H1 (.leaf x p) b s acc (TR.keep k1 ht fun _ _ h=>h) hb (hg.keep k1 id fun _ _ h=>h) ho hs (by omega);rw[show X (D+((AT.leaf x p).ht+(2+d))) f ((#[]:Array Value).toList++[P0 (AT.leaf x p).x,.agg ⟨b.l⟩]++(#[P0 o]:Array Value).toList) H1=_ from e2];simp only[callK_s];have t2:TR H2 (.leaf x p):=TR.keep k2 (TR.keep k1 ht fun _ _ h=>h) fun k hk e=>by
   rcases e with e|e
   ·exact ho (e▸hk)
   ·exact hs k e hk
  rw[show D+((AT.leaf x p).ht+(2+d))=(D+((AT.leaf x p).ht+(1+d)))+1 by omega,lyLeaf_s _ t2];simp only[callK_s,asB_s];refine⟨s',H2,by simp,q2,Keep.trans k1.to k2 fun _ _ h=>h,?_⟩;rcases n2 with e|h
  ·exact .inl e
  ·exact .inr fun k hk=>Nat.le_trans k1.1 (h k hk)
 |nd x ac pt l r ihl ihr=>
  intro d H b s acc ht hb hg ho hs hlen;rw[layout_node_walk_eq,ly_box b.one];have k1:Keep0 H (H.new (.cells b.l t_83 false 0 false)):=Keep.new _ _;have g1:(H.new (.cells b.l t_83 false 0 false)).get H.next=some (.cells b.l t_83 false 0 false):=by simp
  have n1:(H.new (.cells b.l t_83 false 0 false)).next=H.next+1:=rfl
  generalize H.new (.cells b.l t_83 false 0 false)=H1 at*;rw[ly_rd4 g1 b.len];simp only[optK_s,asA_s];rw[callvK_s];have hg1:=hg.keep k1 id fun _ _ h=>h;obtain⟨s2,H2,e2,q2,k2,n2⟩:=hv ((AT.nd x ac pt l r).ht+(2+d)) H1 (.nd x ac pt l r) b s acc (TR.keep k1 ht fun _ _ h=>h) hb hg1 ho hs (by omega);rw[show X (D+((AT.nd x ac pt l r).ht+(2+d))) f ((#[]:Array Value).toList++[P0 (AT.nd x ac pt l r).x,.agg ⟨b.l⟩]++(#[P0 o]:Array Value).toList) H1=_ from e2];simp only[callK_s];have t2:TR H2 (.nd x ac pt l r):=TR.keep k2 (TR.keep k1 ht fun _ _ h=>h) fun k hk e=>by
   rcases e with e|e
   ·exact ho (e▸hk)
   ·exact hs k e hk
  have hlo:=hg.lt;have gb2:H2.get H.next=some (.cells b.l t_83 false 0 false):=(k2.2 _ (by omega) fun e=>by
   rcases e with e|e
   ·omega
   ·have:=hg.whole.lt e;omega).trans g1
  have m2:=k2.1;rw[show D+((AT.nd x ac pt l r).ht+(2+d))=(D+((AT.nd x ac pt l r).ht+(1+d)))+1 by omega,lyLeaf_s _ t2];simp only[callK_s,asB_s];rw[if_neg (by decide),ly_rd4 gb2 b.len];simp only[optK_s,asA_s];obtain⟨hx2,⟨p,gx2⟩,tl2,tr2⟩:=t2;obtain⟨H3,e3,k3⟩:=lyParts_s (d:=D+((AT.nd x ac pt l r).ht+d)) gx2 hx2 hb;rw[show D+((AT.nd x ac pt l r).ht+(1+d))+1=D+((AT.nd x ac pt l r).ht+d)+2 by omega,show(AT.nd x ac pt l r).x=x from rfl,e3];simp only[callK_s,ly_castA,ly_castA',List.getElem?_cons_zero,List.getElem?_cons_succ,optK_s,asA_s,newK_s];obtain⟨ok1,ok2⟩:=partsP_ok (ac:=ac) (pt:=pt) hb;generalize hp1:(partsP ac pt b).1=b1 at*;generalize hp2:(partsP ac pt b).2=b2 at*;have m3:=k3.1;have hdl:=TR.dom_lt ht;have hlen':acc.length+((vis (.nd x ac pt l r) b).length+((l.walkP vis b1).length+(r.walkP vis b2).length))≤1000000:=by have e:(AT.nd x ac pt l r).walkP vis b=vis (.nd x ac pt l r) b++(l.walkP vis (partsP ac pt b).1++r.walkP vis (partsP ac pt b).2):=rfl;rw[e,hp1,hp2]at hlen;simpa[List.length_append]using hlen
  have s2d:∀k,s2.at k→k∉(AT.nd x ac pt l r).dom:=fun k hk hd=>by
   rcases n2 with e|h
   ·exact hs k (e▸hk) hd
   ·have:=h k hk;have:=hdl k hd;omega
  have k4:Keep0 H3 (H3.new (.cells [.int .i64 0,.int .i64 0,.int .i64 0,.int .i64 0] t_83 false 0 false)):=Keep.new _ _;have g4:(H3.new (.cells [.int .i64 0,.int .i64 0,.int .i64 0,.int .i64 0] t_83 false 0 false)).get H3.next=some (.cells [.int .i64 0,.int .i64 0,.int .i64 0,.int .i64 0] t_83 false 0 false):=by simp
  have n4:(H3.new (.cells [.int .i64 0,.int .i64 0,.int .i64 0,.int .i64 0] t_83 false 0 false)).next=H3.next+1:=rfl
  generalize H3.new (.cells [.int .i64 0,.int .i64 0,.int .i64 0,.int .i64 0] t_83 false 0 false)=H4 at*;have k5:Keep0 H4 (H4.new (.cells [.int .i64 0,.int .i64 0,.int .i64 0,.int .i64 0] t_83 false 0 false)):=Keep.new _ _;have g5:(H4.new (.cells [.int .i64 0,.int .i64 0,.int .i64 0,.int .i64 0] t_83 false 0 false)).get H4.next=some (.cells [.int .i64 0,.int .i64 0,.int .i64 0,.int .i64 0] t_83 false 0 false):=by simp
  have n5:(H4.new (.cells [.int .i64 0,.int .i64 0,.int .i64 0,.int .i64 0] t_83 false 0 false)).next=H4.next+1:=rfl
  generalize H4.new (.cells [.int .i64 0,.int .i64 0,.int .i64 0,.int .i64 0] t_83 false 0 false)=H5 at*;have g45:=k5.get (by omega) g4;rw[ly_st4 g45 rfl b1.len b1.one];have g5':(H5.put H3.next (.cells b1.l t_83 false 0 false)).get H4.next=some (.cells [.int .i64 0,.int .i64 0,.int .i64 0,.int .i64 0] t_83 false 0 false):=by rw[Heap.get_put_ne _ _ (by omega)];exact g5
  rw[ly_st4 g5' rfl b2.len b2.one];have p1:((H5.put H3.next (.cells b1.l t_83 false 0 false)).put H4.next (.cells b2.l t_83 false 0 false)).get H3.next=some (.cells b1.l t_83 false 0 false):=by rw[Heap.get_put_ne _ _ (by omega)];simp
  have p2:((H5.put H3.next (.cells b1.l t_83 false 0 false)).put H4.next (.cells b2.l t_83 false 0 false)).get H4.next=some (.cells b2.l t_83 false 0 false):=by simp
  have n6:((H5.put H3.next (.cells b1.l t_83 false 0 false)).put H4.next (.cells b2.l t_83 false 0 false)).next=H5.next:=rfl
  have kq:Keep (fun k=>k=H3.next∨k=H4.next) H5 ((H5.put H3.next (.cells b1.l t_83 false 0 false)).put H4.next (.cells b2.l t_83 false 0 false)):=Keep.trans (Keep.put _ _ _ (.inl rfl)) (Keep.put (S:=fun k=>k=H3.next∨k=H4.next) _ _ _ (.inr rfl)) fun _ _ h=>h;generalize (H5.put H3.next (.cells b1.l t_83 false 0 false)).put H4.next (.cells b2.l t_83 false 0 false)=H6 at*
  have k36:Keep0 H3 H6:=(k4.trans k5).fresh (S:=fun k=>k=H3.next∨k=H4.next) kq fun k e=>by rcases e with e|e<;>omega
  have k26:Keep0 H2 H6:=k3.trans k36;have gx6:=k26.get hx2 gx2;rw[(ld1_s gx6).trans (show _=some (Value.pointer (some ⟨l.x,0,none⟩))from rfl)];simp only[optK_s,asP_s];rw[ly_ldA p1 b1.len];simp only[optK_s,asA_s];have hd1:D+((AT.nd x ac pt l r).ht+d)+2=D+(l.ht+(2+(max l.ht r.ht-l.ht+d)))+1:=by simp only[AT.ht];omega
  have hd2:D+((AT.nd x ac pt l r).ht+d)+2=D+(r.ht+(2+(max l.ht r.ht-r.ht+d)))+1:=by simp only[AT.ht];omega
  obtain⟨s7,H7,e7,q7,k7,n7⟩:=ihl (max l.ht r.ht-l.ht+d) H6 b1 s2 _ (TR.keep k26 tl2 fun _ _ h=>h) ok1 (q2.keep k26 id fun _ _ h=>h) (fun h=>ho (by simp[AT.dom,h])) (fun k hk hd=>s2d k hk (by simp[AT.dom,hd])) (by rw[List.length_append];omega);rw[show X (D+((AT.nd x ac pt l r).ht+d)+2) n_40 [.pointer (some ⟨l.x,0,none⟩),.agg ⟨b1.l⟩,.func (.func f) #[] #[P0 o]] H6=some (.tuple #[],H7)from by rw[hd1];exact e7];simp only[callK_s];have ns:∀k,k∈(AT.nd x ac pt l r).dom→¬(k=o∨s2.at k):=fun k hk e=>by
   rcases e with e|e
   ·exact ho (e▸hk)
   ·exact s2d k e hk
  have m7:=k7.1;have m6:=k26.1;have gx7:=(k7.2 x (by omega) (ns x (by simp[AT.dom]))).trans gx6;rw[(ld1_s gx7).trans (show _=some (Value.pointer (some ⟨r.x,0,none⟩))from rfl)];simp only[optK_s,asP_s];have p27:=(k7.2 H4.next (by omega) fun e=>by
   rcases e with e|e
   ·omega
   ·have:=q2.whole.lt e;omega).trans p2
  rw[ly_ldA p27 b2.len];simp only[optK_s,asA_s];have s7d:∀k,s7.at k→k∉(AT.nd x ac pt l r).dom:=fun k hk hd=>by
   rcases n7 with e|h
   ·exact s2d k (e▸hk) hd
   ·have:=h k hk;have:=hdl k hd;omega
  obtain⟨s8,H8,e8,q8,k8,n8⟩:=ihr (max l.ht r.ht-r.ht+d) H7 b2 s7 _ (TR.keep k7 (TR.keep k26 tr2 fun _ _ h=>h) fun k hk=>ns k (by simp[AT.dom,hk])) ok2 q7 (fun h=>ho (by simp[AT.dom,h])) (fun k hk hd=>s7d k hk (by simp[AT.dom,hd])) (by rw[List.length_append,List.length_append];omega);rw[show X (D+((AT.nd x ac pt l r).ht+d)+2) n_40 [.pointer (some ⟨r.x,0,none⟩),.agg ⟨b2.l⟩,.func (.func f) #[] #[P0 o]] H7=some (.tuple #[],H8)from by rw[hd2];exact e8];simp only[callK_s];refine⟨s8,H8,rfl,?_,?_,?_⟩
  ·have:acc++(AT.nd x ac pt l r).walkP vis b=acc++vis (.nd x ac pt l r) b++l.walkP vis b1++r.walkP vis b2:=by
    rw[show(AT.nd x ac pt l r).walkP vis b=vis (.nd x ac pt l r) b++(l.walkP vis (partsP ac pt b).1++r.walkP vis (partsP ac pt b).2)from rfl,hp1,hp2];simp only[List.append_assoc]
   rw[this];exact q8
  ·have ka:Keep (fun k=>k=o∨s.at k) H H2:=Keep.trans k1.to k2 fun _ _ h=>h;have kb:Keep (fun k=>k=o∨s.at k) H H6:=Keep.trans ka k26 fun _ _ h=>h.elim;have kc:Keep (fun k=>k=o∨s.at k) H H7:=Keep.trans kb k7 fun k hk e=>by
    rcases e with e|e
    ·exact .inl e
    ·rcases n2 with e'|h
     ·exact .inr (e'▸e)
     ·have:=h k e;omega
   refine Keep.trans kc k8 fun k hk e=>?_;rcases e with e|e
   ·exact .inl e
   ·rcases n7 with e'|h
    ·rcases n2 with e''|h
     ·exact .inr (e''▸e'▸e)
     ·have:=h k (e'▸e);omega
    ·have:=h k e;omega
  ·rcases n8 with e8'|h8
   ·rcases n7 with e7'|h7
    ·rcases n2 with e2'|h2
     ·exact .inl (e8'.trans (e7'.trans e2'))
     ·exact .inr fun k hk=>by have:=h2 k (e7'▸e8'▸hk);omega
    ·exact .inr fun k hk=>by have:=h7 k (e8'▸hk);omega
   ·exact .inr fun k hk=>by have:=h8 k hk;omega
def visPane:AT→Rc→List Value:=fun t _=>match t with
 | .leaf _ p=>[.int .i64 p]
 |_=>[]
theorem panes_vis(o:Nat):Vis 2 n_44 o t_22 t_3 1 visPane:=by
 intro d H t b s acc ht hb hg ho hs hlen;rw[show 2+d=(1+d)+1 by omega,layout_Tree_Panes_1_eq,ly_box b.one];have k1:Keep0 H (H.new (.cells b.l t_83 false 0 false)):=Keep.new _ _;generalize H.new (.cells b.l t_83 false 0 false)=H1 at*;have t1:TR H1 t:=TR.keep k1 ht fun _ _ h=>h;have hg1:=hg.keep k1 id fun _ _ h=>h;rw[show 1+d=d+1 by omega,lyLeaf_s d t1];simp only[callK_s,asB_s];have m1:=k1.1;cases t with
 |nd x ac pt l r=>rw[if_neg (by simp)];exact⟨s,H1,rfl,by simpa[visPane]using hg1,k1.to,.inl rfl⟩
 |leaf x p=>
  obtain⟨hx,ac,pt,gx⟩:=t1;have ol:=(ld1_s (off:=0) hg1.get).trans (show _=some s.v from rfl);rw[if_pos rfl,ol];simp only[optK_s,asSL_k];rw[show(AT.leaf x p).x=x from rfl,(ld1_s gx).trans (show _=some (Value.int .i64 p)from rfl)];simp only[optK_s,asI_s,newK_s];have k0:Keep0 H1 (H1.new (.cells [.int .i64 p] t_3 false 0 false)):=Keep.new _ _;have hsn:=hg1.whole.len.1;obtain⟨s',H2,e2,w2,k2,k2',f2,_⟩:=push_whole (bytes:=8) (new:=[.int .i64 p]) hg1.whole rfl (by omega) (by omega) (by omega);rw[e2];simp only[asSL_k];have hlo:=hg1.lt;have go:H2.get o=some (.cells [s.v] t_22 false 0 false):=(k2.2 o hlo hg1.apart).trans hg1.get;rw[(st1_s (v:=s'.v) go (by show 0<1;omega) (by omega)).trans (show _=some (H2.put o (.cells [s'.v] t_22 false 0 false))from rfl)];simp only[optK_s];have r1:readD (.load 1 false) [P0 o] H1=some s.v:=ol;have r2:readD (.load 1 false) [P0 o] (H1.new (.cells [.int .i64 p] t_3 false 0 false))=some s.v:=(ld1_s (off:=0) (k0.get hlo hg1.get)).trans (show _=some s.v from rfl);rw[show rdsOk _ _=true from by simp only[rdsOk,Bool.and_true];rw[show 1+1-0=2 from rfl,rdOk_2,rdAt_s rfl r1 (same_sl _ _ _),rdAt_s rfl r2 (same_sl _ _ _)];rfl];simp only[chk_s];have kp:Keep (fun k=>k=o) H2 (H2.put o (.cells [s'.v] t_22 false 0 false)):=Keep.put _ _ _ rfl;have hso:¬s'.at o:=fun h=>by have:=f2 o h;omega
  refine⟨s',_,rfl,⟨by simp,Nat.lt_of_lt_of_le hlo k2.1,w2.keep kp fun k hk e=>hso (e▸hk),hso⟩,?_,.inr fun k hk=>by have:=f2 k hk;omega⟩;exact Keep.trans (S:=fun k=>k=o∨s.at k) (k1.to) (Keep.trans (S:=fun k=>k=o∨s.at k) (k2.mono fun _ _ h=>.inr h) kp fun _ _ e=>.inl e) fun _ _ h=>h
def AT.panes:AT→List Int
 | .leaf _ p=>[p]
 | .nd _ _ _ l r=>l.panes++r.panes
def AT.places:AT→Rc→List Rc
 | .leaf _ _,b=>[b]
 | .nd _ ac pt l r,b=>l.places (partsP ac pt b).1++r.places (partsP ac pt b).2
theorem AT.walk_panes:∀(t:AT) (b:Rc),t.walkP visPane b=t.panes.map (.int .i64)
 | .leaf _ _,_=>rfl
 | .nd x ac pt l r,b=>by rw[show(AT.nd x ac pt l r).walkP visPane b=[]++(l.walkP visPane (partsP ac pt b).1++r.walkP visPane (partsP ac pt b).2)from rfl,l.walk_panes,r.walk_panes,List.nil_append,←List.map_append];rfl
theorem Rc.zero_ok:(Rc.mk 0 0 0 0).ok:=by unfold Rc.ok;simp
theorem lyPanes_s(d:Nat){H:Heap}{tb:Nat}{t:AT}(hb:H.get tb=some (.cells [P0 t.x] t_114 false 0 false))(hl:tb<H.next)(ht:TR H t)(hn:t.panes.length≤1000000):∃s H',X (2+(t.ht+(2+d))+1+1) n_25 [P0 tb] H=some (s.v,H')∧Whole H' s (t.panes.map (.int .i64)) t_3 1∧Keep0 H H'∧∀k,s.at k→H.next≤k:=by
 rw[layout_Tree_Panes_eq];simp only[newK_s];have k1:Keep0 H (H.new (.cells [.slice none 0 0] t_22 false 0 false)):=Keep.new _ _;have g1:(H.new (.cells [.slice none 0 0] t_22 false 0 false)).get H.next=some (.cells [.slice none 0 0] t_22 false 0 false):=by simp
 have n1:(H.new (.cells [.slice none 0 0] t_22 false 0 false)).next=H.next+1:=rfl
 generalize H.new (.cells [.slice none 0 0] t_22 false 0 false)=H1 at*;rw[(ld1_s (k1.get hl hb)).trans (show _=some (P0 t.x)from rfl)];simp only[optK_s,P0,asP_s];have hdl:=TR.dom_lt ht;obtain⟨s,H2,e2,q2,k2,n2⟩:=lyWalk_s (panes_vis H.next) t d H1 ⟨0,0,0,0⟩ Sl.nil [] (TR.keep k1 ht fun _ _ h=>h) Rc.zero_ok ⟨g1,by omega,.inl ⟨rfl,rfl⟩,Sl.at_nil⟩ (fun h=>by have:=hdl _ h;omega) (fun k h=>absurd h Sl.at_nil) (by
  rw[t.walk_panes];simpa using hn)
 rw[show X (2+(t.ht+(2+d))+1) n_40 [.pointer (some ⟨t.x,0,none⟩),.agg #[.int .i64 0,.int .i64 0,.int .i64 0,.int .i64 0],.func (.func n_44) #[] #[.pointer (some ⟨H.next,0,none⟩)]] H1=some (.tuple #[],H2)from e2];simp only[callK_s];rw[(ld1_s q2.get).trans (show _=some s.v from rfl)];simp only[optK_s,asSL_k];have q2w:=q2.whole;rw[t.walk_panes,List.nil_append]at q2w;refine⟨s,H2,rfl,q2w,k1.fresh (S:=fun k=>k=H.next∨Sl.nil.at k) k2 fun k e=>?_,fun k hk=>?_⟩
 ·rcases e with e|e
  ·omega
  ·exact absurd e Sl.at_nil
 ·rcases n2 with e|h
  ·subst e;exact absurd hk Sl.at_nil
  ·have:=h k hk;omega
theorem Rc.fill(r:Rc):fillL [(0,4)] [.agg ⟨r.l⟩] [.int .i64 0,.int .i64 0,.int .i64 0,.int .i64 0]=some r.l:=by simp only[fillL];rw[if_pos ⟨rfl,by decide,r.one⟩];rfl
def visPlace:AT→Rc→List Value:=fun t b=>match t with
 | .leaf _ _=>b.l
 |_=>[]
theorem places_vis(o:Nat):Vis 2 n_42 o t_78 t_83 4 visPlace:=by
 intro d H t b s acc ht hb hg ho hs hlen;rw[show 2+d=(1+d)+1 by omega,layout_Tree_Places_1_eq,ly_box b.one];have k1:Keep0 H (H.new (.cells b.l t_83 false 0 false)):=Keep.new _ _;have g1:(H.new (.cells b.l t_83 false 0 false)).get H.next=some (.cells b.l t_83 false 0 false):=by simp
 generalize H.new (.cells b.l t_83 false 0 false)=H1 at*;have t1:TR H1 t:=TR.keep k1 ht fun _ _ h=>h;have hg1:=hg.keep k1 id fun _ _ h=>h;rw[show 1+d=d+1 by omega,lyLeaf_s d t1];simp only[callK_s,asB_s];have m1:=k1.1;cases t with
 |nd x ac pt l r=>rw[if_neg (by simp)];exact⟨s,H1,rfl,by simpa[visPlace]using hg1,k1.to,.inl rfl⟩
 |leaf x p=>
  have ol:=(ld1_s (off:=0) hg1.get).trans (show _=some s.v from rfl);rw[if_pos rfl,ol];simp only[optK_s,asSL_k];rw[ly_rd4 g1 b.len];simp only[optK_s,asA_s,b.fill,newK_s];have hsn:=hg1.whole.len.1;obtain⟨s',H2,e2,w2,k2,k2',f2,_⟩:=push_whole (bytes:=32) (new:=b.l) hg1.whole b.len (by omega) (by omega) (by omega);rw[e2];simp only[asSL_k];have hlo:=hg1.lt;have go:H2.get o=some (.cells [s.v] t_78 false 0 false):=(k2.2 o hlo hg1.apart).trans hg1.get;rw[(st1_s (v:=s'.v) go (by show 0<1;omega) (by omega)).trans (show _=some (H2.put o (.cells [s'.v] t_78 false 0 false))from rfl)];simp only[optK_s];have kp:Keep (fun k=>k=o) H2 (H2.put o (.cells [s'.v] t_78 false 0 false)):=Keep.put _ _ _ rfl;have hso:¬s'.at o:=fun h=>by have:=f2 o h;omega
  refine⟨s',_,rfl,⟨by simp,Nat.lt_of_lt_of_le hlo k2.1,w2.keep kp fun k hk e=>hso (e▸hk),hso⟩,?_,.inr fun k hk=>by have:=f2 k hk;omega⟩;exact Keep.trans (S:=fun k=>k=o∨s.at k) (k1.to) (Keep.trans (S:=fun k=>k=o∨s.at k) (k2.mono fun _ _ h=>.inr h) kp fun _ _ e=>.inl e) fun _ _ h=>h
theorem AT.walk_places:∀(t:AT) (b:Rc),t.walkP visPlace b=(t.places b).flatMap Rc.l
 | .leaf _ _,b=>by simp[AT.walkP,visPlace,AT.places]
 | .nd x ac pt l r,b=>by rw[show(AT.nd x ac pt l r).walkP visPlace b=[]++(l.walkP visPlace (partsP ac pt b).1++r.walkP visPlace (partsP ac pt b).2)from rfl,l.walk_places,r.walk_places,List.nil_append,←List.flatMap_append];rfl
theorem AT.places_len:∀(t:AT) (b:Rc),(t.places b).length=t.panes.length
 | .leaf _ _,_=>rfl
 | .nd x ac pt l r,b=>by simp[AT.places,AT.panes,l.places_len,r.places_len]
theorem Rc.flat_len:∀l:List Rc,(l.flatMap Rc.l).length=l.length*4
 |[]=>rfl
 |r::l=>by simp only[List.flatMap_cons,List.length_append,Rc.flat_len l,r.len,List.length_cons];omega
def winRc(rows cols:Nat):Rc:=⟨0,0,rows,cols⟩
theorem winRc_ok{rows cols:Nat}(h:rows≤100000∧cols≤100000):(winRc rows cols).ok:=by unfold Rc.ok winRc;simp;omega
theorem lyAll_s(d rows cols:Nat)(H:Heap):∃H',X (d+1) n_41 [.int .i64 (rows:Int),.int .i64 (cols:Int)] H=some (.agg ⟨(winRc rows cols).l⟩,H')∧Keep0 H H':=by
 rw[layout_all_eq];simp only[newK_s];have k1:Keep0 H (H.new (.cells [.int .i64 0,.int .i64 0,.int .i64 0,.int .i64 0] t_83 false 0 false)):=Keep.new _ _;have g1:(H.new (.cells [.int .i64 0,.int .i64 0,.int .i64 0,.int .i64 0] t_83 false 0 false)).get H.next=some (.cells [.int .i64 0,.int .i64 0,.int .i64 0,.int .i64 0] t_83 false 0 false):=by simp
 generalize H.new (.cells [.int .i64 0,.int .i64 0,.int .i64 0,.int .i64 0] t_83 false 0 false)=H1 at*;rw[if_neg (by omega),if_neg (by omega)];have es:Heap.stN H1 ⟨H.next,0,none⟩ [.int .i64 0,.int .i64 0,.int .i64 (rows:Int),.int .i64 (cols:Int)]=some (H1.put H.next (.cells (winRc rows cols).l t_83 false 0 false)):=by simp only[Heap.stN,g1];rfl
 rw[es];simp only[optK_s];have kp:Keep (fun k=>k=H.next) H1 (H1.put H.next (.cells (winRc rows cols).l t_83 false 0 false)):=Keep.put _ _ _ rfl;exact⟨_,ly_ret4 (by simp),k1.fresh kp fun k e=>by have e':k=H.next:=e;omega⟩
theorem lyPlaces_s(d rows cols:Nat)(hrc:rows≤100000∧cols≤100000){H:Heap}{tb:Nat}{t:AT}(hb:H.get tb=some (.cells [P0 t.x] t_114 false 0 false))(hl:tb<H.next)(ht:TR H t)(hn:t.panes.length≤100000):∃s H',X (2+(t.ht+(2+d))+1+1) n_24 [P0 tb,.int .i64 (rows:Int),.int .i64 (cols:Int)] H=some (s.v,H')∧Whole H' s ((t.places (winRc rows cols)).flatMap Rc.l) t_83 4∧Keep0 H H'∧∀k,s.at k→H.next≤k:=by
 rw[layout_Tree_Places_eq];simp only[newK_s];have k1:Keep0 H (H.new (.cells [.slice none 0 0] t_78 false 0 false)):=Keep.new _ _;have g1:(H.new (.cells [.slice none 0 0] t_78 false 0 false)).get H.next=some (.cells [.slice none 0 0] t_78 false 0 false):=by simp
 have n1:(H.new (.cells [.slice none 0 0] t_78 false 0 false)).next=H.next+1:=rfl
 generalize H.new (.cells [.slice none 0 0] t_78 false 0 false)=H1 at*;have tl1:=(ld1_s (off:=0) (k1.get hl hb)).trans (show _=some (P0 t.x)from rfl);rw[tl1];simp only[optK_s,P0,asP_s];obtain⟨H2,e2,k2⟩:=lyAll_s (2+(t.ht+(2+d))) rows cols H1;rw[e2];simp only[callK_s,asA_s];have hdl:=TR.dom_lt ht;have m2:=k2.1;obtain⟨s,H3,e3,q3,k3,n3⟩:=lyWalk_s (places_vis H.next) t d H2 (winRc rows cols) Sl.nil [] (TR.keep (k1.trans k2) ht fun _ _ h=>h) (winRc_ok hrc) ⟨k2.get (by omega) g1,by omega,.inl ⟨rfl,rfl⟩,Sl.at_nil⟩ (fun h=>by have:=hdl _ h;omega) (fun k h=>absurd h Sl.at_nil) (by
  rw[t.walk_places,Rc.flat_len,t.places_len];simp;omega)
 rw[show X (2+(t.ht+(2+d))+1) n_40 [.pointer (some ⟨t.x,0,none⟩),.agg ⟨(winRc rows cols).l⟩,.func (.func n_42) #[] #[.pointer (some ⟨H.next,0,none⟩)]] H2=some (.tuple #[],H3)from e3];simp only[callK_s];have tl2:=(ld1_s (off:=0) (k2.get (by omega) (k1.get hl hb))).trans (show _=some (P0 t.x)from rfl);rw[show rdsOk _ _=true from by simp only[rdsOk,Bool.and_true];rw[show 1+1-0=2 from rfl,rdOk_2,rdAt_s rfl (show readD (.load 1 false) [.pointer (some ⟨tb,0,none⟩)] H1=some (.pointer (some ⟨t.x,0,none⟩))from tl1) (same_ptr _),rdAt_s rfl (show readD (.load 1 false) [.pointer (some ⟨tb,0,none⟩)] H2=some (.pointer (some ⟨t.x,0,none⟩))from tl2) (same_ptr _)];rfl];simp only[chk_s];rw[(ld1_s q3.get).trans (show _=some s.v from rfl)];simp only[optK_s,asSL_k];have q3w:=q3.whole;rw[t.walk_places,List.nil_append]at q3w;refine⟨s,H3,rfl,q3w,(k1.trans k2).fresh (S:=fun k=>k=H.next∨Sl.nil.at k) k3 fun k e=>?_,fun k hk=>?_⟩
 ·rcases e with e|e
  ·omega
  ·exact absurd e Sl.at_nil
 ·rcases n3 with e|h
  ·subst e;exact absurd hk Sl.at_nil
  ·have:=h k hk;omega
theorem lyIntAt{H:Heap}{y:Sl}{l:List Int}(w:Whole H y (l.map (.int .i64)) t_3 1){i:Nat}{n:Int}(h:l[i]?=some n):∃b,y.a=some ⟨b,0,none⟩∧Heap.ld1 H (ap ⟨b,0,none⟩ (((i:Int).toNat)*1))=some (.int .i64 n):=by
 have hn:=(Whole.len w).1;rw[List.length_map]at hn;have hlt:=(List.getElem?_eq_some_iff.1 h).1;have hne:y.a≠none:=by
  rcases w with ⟨h1,_⟩|⟨b,q,h1,_⟩
  ·rw[h1]at hn;have hn':l.length=0*1:=hn;omega
  ·rw[h1];simp
 obtain⟨b,v,_⟩:=Vw.of w hne;have hl:=v.ld (i:=i) (x:=.int .i64 n) (by simp[h]);refine⟨b,v.sa,?_⟩;rw[show ap ⟨b,0,none⟩ (((i:Int).toNat)*1)=⟨b,([]:List Value).length+i,none⟩by simp[ap]];exact hl
theorem lyIndex_loop(d:Nat){H:Heap}{y:Sl}{l:List Int}(w:Whole H y (l.map (.int .i64)) t_3 1)(hl:l.length≤100000)(x:Int):∀(r:List Int) (m i:Nat),r.length<m→l.drop i=r→i+r.length=l.length→∃n:Int,ja d m y x (y.n:Int) (i:Int) H=some (.int .i64 n,H)∧(0≤n↔x∈r):=by
 intro r;have hn:y.n=l.length:=by have:=(Whole.len w).1;rw[List.length_map]at this;omega
 induction r with
 |nil=>intro m i hm _ hi;obtain⟨m,rfl⟩:∃m',m=m'+1:=⟨m-1,by simp at hm;omega⟩;simp only[List.length_nil]at hi;rw[ja_s,if_neg (show¬decide ((i:Int)<(y.n:Int))=true by simp;omega)];exact⟨-1,rfl,by simp⟩
 |cons a r ih=>
  intro m i hm hd hi;simp only[List.length_cons]at hm hi;obtain⟨m,rfl⟩:∃m',m=m'+1:=⟨m-1,by omega⟩;have hc:l[i]?=some a:=by have:=congrArg (fun x=>x[0]?) hd;simpa using this
  have hdr:l.drop (i+1)=r:=by rw[←List.drop_drop,hd];rfl
  obtain⟨b,ha,hl1⟩:=lyIntAt w hc;rw[ja_s,if_pos (show decide ((i:Int)<(y.n:Int))=true from decide_eq_true (by omega)),ha];simp only[optK_s];rw[if_pos (show(0:Int)≤(i:Int)∧(i:Int)<(y.n:Int)by omega),hl1];simp only[optK_s,asI_s];by_cases e:x=a
  ·rw[if_pos (show decide (x=a)=true from decide_eq_true e)];exact⟨i,rfl,by subst e;simp⟩
  ·rw[if_neg (show¬decide (x=a)=true by simpa using e),lyw (n:=(i:Int)+1) (by omega),show(i:Int)+1=((i+1:Nat):Int)by omega];obtain⟨n,e1,e2⟩:=ih m (i+1) (by omega) hdr (by omega);exact⟨n,e1,by rw[e2];simp[e]⟩
theorem lyContains_s(d:Nat){H:Heap}{y:Sl}{l:List Int}(w:Whole H y (l.map (.int .i64)) t_3 1)(hl:l.length≤100000)(x:Int):X (d+2) n_54 [y.v,.int .i64 x] H=some (.bool (decide (x∈l)),H):=by rw[slices_Contains_S_int_int_eq,slices_Index_S_int_int_eq];obtain⟨n,e1,e2⟩:=lyIndex_loop d w hl x l NN 0 (by rw[NN_eq];omega) rfl (by omega);rw[show(0:Int)=((0:Nat):Int)from rfl,e1];simp only[callK_s,asI_s];rw[show decide (((0:Nat):Int)≤n)=decide (x∈l)from decide_eq_decide.2 e2]
theorem lyHas_s(d:Nat){H:Heap}{tb:Nat}{t:AT}(hb:H.get tb=some (.cells [P0 t.x] t_114 false 0 false))(hl:tb<H.next)(ht:TR H t)(hn:t.panes.length≤100000)(p:Int):∃H',X (2+(t.ht+(2+d))+1+1+1) n_34 [P0 tb,.int .i64 p] H=some (.bool (decide (p∈t.panes)),H')∧Keep0 H H':=by
 rw[layout_Tree_Has_eq];obtain⟨s,H1,e1,w1,k1,_⟩:=lyPanes_s d hb hl ht (by omega);rw[e1];simp only[callK_s,asSL_k];rw[show 2+(t.ht+(2+d))+1+1=(2+(t.ht+(2+d)))+2 by omega,lyContains_s _ w1 hn p];simp only[callK_s,asB_s];exact⟨H1,rfl,k1⟩
theorem lyHasN_s(d:Nat){H:Heap}{t:AT}(ht:TR H t)(hn:t.panes.length≤100000)(p:Int):∃H',X (2+(t.ht+(2+d))+1+1+1+1) n_56 [P0 t.x,.int .i64 p] H=some (.bool (decide (p∈t.panes)),H')∧Keep0 H H':=by
 rw[layout_node_has_eq];simp only[newK_s];have k1:Keep0 H (H.new (.cells [P0 t.x] t_114 false 0 false)):=Keep.new _ _;have g1:(H.new (.cells [P0 t.x] t_114 false 0 false)).get H.next=some (.cells [P0 t.x] t_114 false 0 false):=by simp
 have n1:(H.new (.cells [P0 t.x] t_114 false 0 false)).next=H.next+1:=rfl
 generalize H.new (.cells [P0 t.x] t_114 false 0 false)=H1 at*;obtain⟨H2,e2,k2⟩:=lyHas_s d g1 (by omega) (TR.keep k1 ht fun _ _ h=>h) hn p;rw[e2];simp only[callK_s,asB_s];exact⟨H2,rfl,k1.trans k2⟩
end Go.Proofs.YtjjchnjcmnkpdaaDoor.dec
namespace Go.Cm
open Go
theorem rdsOk_append(hs:List Heap):∀a b:List Rd,rdsOk hs (a++b)=(rdsOk hs a&&rdsOk hs b)
 |[],_=>by simp[rdsOk]
 |d::a,b=>by simp only[List.cons_append,rdsOk,rdsOk_append hs a b,Bool.and_assoc]
theorem alive_ok{hs:List Heap}{n:Nat}{H H2:Heap}(h:hs[n]?=some H2):∀{vs:List Value},(∀v∈vs,∀(a:Addr) (l k:Nat),v=.slice (some a) l k→∀o,H.get a.block=some o→∃c e op fz st,H2.get a.block=some (.cells c e op fz st))→rdsOk hs (aliveRds vs H n)=true
 |[],_=>rfl
 |v::vs,hv=>by
  have ih:=alive_ok h (vs:=vs) fun u hu=>hv u (List.mem_cons_of_mem _ hu);unfold aliveRds;rw[rdsOk_append,ih,Bool.and_true];split
  ·rename_i a l k;split
   ·rename_i o ho;obtain⟨c,e,op,fz,st,hg⟩:=hv _ List.mem_cons_self a l k rfl o ho;simp only[rdsOk,Bool.and_true];rw[show n+1-n=1 by omega,rdOk_1];refine rdAt_s h (v:=.agg #[]) ?_ (by simp[same,sameL]);simp only[readD,if_true,Heap.ldN,hg];simp
   ·rfl
  ·rfl
theorem append_old{P:Program}{w0:Start}{e:TypeId}{sz bytes:Nat}{str:Bool}{s x:Value}{G H':Heap}{v:Value}(h:∀K,appendK e sz bytes str s x G K=K v H')(hn:H'.next≠G.next):∀(k:Nat) o,k<G.next→H'.get k=some o→G.get k=some o:=by
 intro k o hk ho;rcases appendK_made (P:=P) (w0:=w0) (h fun v H=>some (v,H))with ⟨v1,G1,h1,h2⟩|⟨l,ob,kl,h1,_⟩
 ·simp only[Option.some.injEq,Prod.mk.injEq]at h1;rw[←h1.2]at hn;exact absurd h2 hn
 ·simp only[Option.some.injEq,Prod.mk.injEq]at h1;rw[←h1.2,Heap.get_new,killO_next,if_neg (by omega),killO_get]at ho;split at ho
  ·cases ho
  ·exact ho
end Go.Cm
namespace Go.Proofs.YtjjchnjcmnkpdaaDoor.dec
open Go Go.Cm
attribute [local congr] optK_congr asI_congr asN_congr asB_congr asS_congr asP_congr asA_congr asSL_congr callK_congr castT_congr chk_congr
def AT.find(p:Int):AT→Rc→AT×Rc
 | .leaf x q,b=>(.leaf x q,b)
 | .nd _ ac pt l r,b=>if p∈l.panes then l.find p (partsP ac pt b).1 else r.find p (partsP ac pt b).2
def AT.around(p:Int):AT→List Nat
 | .leaf _ _=>[]
 | .nd x _ _ l r=>x::(if p∈l.panes then l.around p else r.around p)
def AT.boxes(p:Int):AT→Rc→List Rc
 | .leaf _ _,_=>[]
 | .nd _ ac pt l r,b=>b::(if p∈l.panes then l.boxes p (partsP ac pt b).1 else r.boxes p (partsP ac pt b).2)
theorem lyFind_loop(p:Int):∀(t:AT) (d m:Nat) (H:Heap) (b:Rc) (bx:Nat) (s1 s2:Sl) (A B:List Value),t.ht<m→TR H t→b.ok→t.panes.length≤100000→H.get bx=some (.cells b.l t_83 false 0 false)→bx<H.next→
  Whole H s1 A t_100 1→Whole H s2 B t_83 4→bx∉t.dom→¬s1.at bx→¬s2.at bx→(∀k,s1.at k→k∉t.dom)→(∀k,s2.at k→k∉t.dom)→(∀k,s1.at k→¬s2.at k)→A.length+t.ht≤100000→B.length+4*t.ht≤400000→
  ∃s1' s2' H',j9 (2+(t.ht+(2+d))+1+1+1+1) m p (some ⟨t.x,0,none⟩) bx s1 s2 H=some (.tuple #[P0 (t.find p b).1.x,.agg ⟨(t.find p b).2.l⟩,s1'.v,s2'.v],H')∧Whole H' s1' (A++(t.around p).map P0) t_100 1∧Whole H' s2' (B++(t.boxes p b).flatMap Rc.l) t_83 4∧Keep (fun k=>k=bx∨s1.at k∨s2.at k) H H':=by
 intro t;induction t with
 |leaf x q=>
  intro d m H b bx s1 s2 A B hm ht hb hn hbx hbl w1 w2 a1 a2 a3 a4 a5 a6 a7 a8;obtain⟨m,rfl⟩:∃m',m=m'+1:=⟨m-1,by omega⟩;rw[j9_s,show X (2+((AT.leaf x q).ht+(2+d))+1+1+1+1) n_43 [.pointer (some ⟨(AT.leaf x q).x,0,none⟩)] H=_ from lyLeaf_s (2+((AT.leaf x q).ht+(2+d))+1+1+1) ht];simp only[callK_s,asB_s];rw[if_neg (by decide),ly_ldA hbx b.len];simp only[optK_s,asA_s];rw[ly_st4 hbx b.len b.len b.one];have g:(H.put bx (.cells b.l t_83 false 0 false)).get bx=some (.cells b.l t_83 false 0 false):=by simp
  have kp:Keep (fun k=>k=bx) H (H.put bx (.cells b.l t_83 false 0 false)):=Keep.put _ _ _ rfl;generalize H.put bx (.cells b.l t_83 false 0 false)=H1 at*;have f8:Fr.get [(8,P0 x),(9,P0 bx),(10,s1.v),(11,s2.v)] 8=some (P0 x):=rfl;have f9:Fr.get [(8,P0 x),(9,P0 bx),(10,s1.v),(11,s2.v)] 9=some (P0 bx):=rfl;have f10:Fr.get [(8,P0 x),(9,P0 bx),(10,s1.v),(11,s2.v)] 10=some s1.v:=rfl;have f11:Fr.get [(8,P0 x),(9,P0 bx),(10,s1.v),(11,s2.v)] 11=some s2.v:=rfl;refine⟨s1,s2,H1,?_,by simpa[AT.around]using w1.keep kp fun k hk e=>a2 (e▸hk),by simpa[AT.boxes]using w2.keep kp fun k hk e=>a3 (e▸hk),kp.mono fun _ _ e=>.inl e⟩;show retK [.tmp 8,.cell 9 4 true,.tmp 10,.tmp 11] [(8,P0 x),(9,P0 bx),(10,s1.v),(11,s2.v)] H1=_;simp only[retK,resL,f8,f9,f10,f11,ly_rd4 g b.len];rfl
 |nd x ac pt l r ihl ihr=>
  intro d m H b bx s1 s2 A B hm ht hb hn hbx hbl w1 w2 a1 a2 a3 a4 a5 a6 a7 a8;obtain⟨m,rfl⟩:∃m',m=m'+1:=⟨m-1,by omega⟩;rw[j9_s,show X (2+((AT.nd x ac pt l r).ht+(2+d))+1+1+1+1) n_43 [.pointer (some ⟨(AT.nd x ac pt l r).x,0,none⟩)] H=_ from lyLeaf_s (2+((AT.nd x ac pt l r).ht+(2+d))+1+1+1) ht];simp only[callK_s,asB_s];rw[if_pos (by decide),ly_ldA hbx b.len];simp only[optK_s,asA_s];have hdl:=TR.dom_lt ht;have hxd:x∈(AT.nd x ac pt l r).dom:=by simp[AT.dom]
  obtain⟨hx,⟨pq,gx⟩,tl,tr⟩:=ht;obtain⟨H2,e2,k2⟩:=lyParts_s (d:=2+((AT.nd x ac pt l r).ht+(2+d))+1+1) gx hx hb;rw[show X (2+((AT.nd x ac pt l r).ht+(2+d))+1+1+1+1) n_55 [.pointer (some ⟨(AT.nd x ac pt l r).x,0,none⟩),.agg ⟨b.l⟩] H=_ from e2];simp only[callK_s,ly_castA,ly_castA',List.getElem?_cons_zero,List.getElem?_cons_succ,optK_s,asA_s,newK_s];obtain⟨ok1,ok2⟩:=partsP_ok (ac:=ac) (pt:=pt) hb;have ef:(AT.nd x ac pt l r).find p b=if p∈l.panes then l.find p (partsP ac pt b).1 else r.find p (partsP ac pt b).2:=rfl;have ea:(AT.nd x ac pt l r).around p=x::(if p∈l.panes then l.around p else r.around p):=rfl;have eb:(AT.nd x ac pt l r).boxes p b=b::(if p∈l.panes then l.boxes p (partsP ac pt b).1 else r.boxes p (partsP ac pt b).2):=rfl;rw[ef,ea,eb];generalize (partsP ac pt b).1=b1 at*;generalize (partsP ac pt b).2=b2 at*;have m2:=k2.1;have k3:Keep0 H2 (H2.new (.cells [.int .i64 0,.int .i64 0,.int .i64 0,.int .i64 0] t_83 false 0 false)):=Keep.new _ _;have g3:(H2.new (.cells [.int .i64 0,.int .i64 0,.int .i64 0,.int .i64 0] t_83 false 0 false)).get H2.next=some (.cells [.int .i64 0,.int .i64 0,.int .i64 0,.int .i64 0] t_83 false 0 false):=by simp
  have n3:(H2.new (.cells [.int .i64 0,.int .i64 0,.int .i64 0,.int .i64 0] t_83 false 0 false)).next=H2.next+1:=rfl
  generalize H2.new (.cells [.int .i64 0,.int .i64 0,.int .i64 0,.int .i64 0] t_83 false 0 false)=H3 at*;have k4:Keep0 H3 (H3.new (.cells [.int .i64 0,.int .i64 0,.int .i64 0,.int .i64 0] t_83 false 0 false)):=Keep.new _ _;have g4:(H3.new (.cells [.int .i64 0,.int .i64 0,.int .i64 0,.int .i64 0] t_83 false 0 false)).get H3.next=some (.cells [.int .i64 0,.int .i64 0,.int .i64 0,.int .i64 0] t_83 false 0 false):=by simp
  have n4:(H3.new (.cells [.int .i64 0,.int .i64 0,.int .i64 0,.int .i64 0] t_83 false 0 false)).next=H3.next+1:=rfl
  generalize H3.new (.cells [.int .i64 0,.int .i64 0,.int .i64 0,.int .i64 0] t_83 false 0 false)=H4 at*;have g34:=k4.get (by omega) g3;rw[ly_st4 g34 rfl b1.len b1.one];have g4':(H4.put H2.next (.cells b1.l t_83 false 0 false)).get H3.next=some (.cells [.int .i64 0,.int .i64 0,.int .i64 0,.int .i64 0] t_83 false 0 false):=by rw[Heap.get_put_ne _ _ (by omega)];exact g4
  rw[ly_st4 g4' rfl b2.len b2.one];have p1:((H4.put H2.next (.cells b1.l t_83 false 0 false)).put H3.next (.cells b2.l t_83 false 0 false)).get H2.next=some (.cells b1.l t_83 false 0 false):=by rw[Heap.get_put_ne _ _ (by omega)];simp
  have p2:((H4.put H2.next (.cells b1.l t_83 false 0 false)).put H3.next (.cells b2.l t_83 false 0 false)).get H3.next=some (.cells b2.l t_83 false 0 false):=by simp
  have n5:((H4.put H2.next (.cells b1.l t_83 false 0 false)).put H3.next (.cells b2.l t_83 false 0 false)).next=H4.next:=rfl
  have kq:Keep (fun k=>k=H2.next∨k=H3.next) H4 ((H4.put H2.next (.cells b1.l t_83 false 0 false)).put H3.next (.cells b2.l t_83 false 0 false)):=Keep.trans (Keep.put _ _ _ (.inl rfl)) (Keep.put (S:=fun k=>k=H2.next∨k=H3.next) _ _ _ (.inr rfl)) fun _ _ h=>h;generalize (H4.put H2.next (.cells b1.l t_83 false 0 false)).put H3.next (.cells b2.l t_83 false 0 false)=H5 at*
  have k25:Keep0 H2 H5:=(k3.trans k4).fresh (S:=fun k=>k=H2.next∨k=H3.next) kq fun k e=>by rcases e with e|e<;>omega
  have k05:Keep0 H H5:=k2.trans k25;have m5:=k05.1;have l1:=fun k (h:s1.at k)=>w1.lt h;have l2:=fun k (h:s2.at k)=>w2.lt h;have w15:=w1.keep k05 fun _ _ h=>h;have w25:=w2.keep k05 fun _ _ h=>h;have nn:∀(G:Heap) (o:CObj),(!(Nat.beq (G.new o).next G.next))=true:=fun G o=>by
   have:Nat.beq (G.next+1) G.next=false:=by
    cases hb:Nat.beq (G.next+1) G.next
    ·rfl
    ·exact absurd (Nat.eq_of_beq_eq_true hb) (by omega)
   show(!(Nat.beq (G.next+1) G.next))=true;rw[this];rfl
  have nb:∀a c:Nat,c<a→(!(Nat.beq a c))=true:=fun a c h=>by
   have:Nat.beq a c=false:=by
    cases hb:Nat.beq a c
    ·rfl
    ·exact absurd (Nat.eq_of_beq_eq_true hb) (by omega)
   rw[this];rfl
  rw[nn,chk_s];have sn1:=w1.len.1;have sn2:=w2.len.1;have hht:(AT.nd x ac pt l r).ht=max l.ht r.ht+1:=rfl;obtain⟨s1',H7,e7,w17,k7,k7',f7,c7⟩:=push_whole (bytes:=8) (new:=[P0 x]) w15 rfl (by omega) (by omega) (by omega);rw[show(Value.pointer (some ⟨(AT.nd x ac pt l r).x,0,none⟩))=P0 x from rfl,e7];simp only[asSL_k];have m7:=k7.1;have at1:∃k,s1'.at k:=by
   rcases w17 with ⟨h,_⟩|⟨bb,n,h,_⟩
   ·rw[h]at c7;have:0=s1.n+1:=c7;omega
   ·exact⟨bb,_,by rw[h],rfl⟩
  obtain⟨kk,hkk⟩:=at1;have h7n:H5.next+1<H7.next:=by have:=f7 kk hkk;have:=w17.lt hkk;omega
  rw[nb _ _ (show(H5.new (.cells [P0 x] t_100 false 0 false)).next<H7.next from h7n),chk_s];have gb5:=k05.get hbl hbx;have gb7:=(k7.2 bx (by omega) a2).trans gb5;rw[ly_ldA gb7 b.len];simp only[optK_s,asA_s,b.fill];rw[nn,chk_s];have w27:=w25.keep k7 fun k hk e=>a6 k e hk;obtain⟨s2',H9,e9,w29,k9,k9',f9,c9⟩:=push_whole (bytes:=32) (new:=b.l) w27 b.len (by omega) (by omega) (by omega);rw[e9];simp only[asSL_k];have m9:=k9.1;have at2:∃k,s2'.at k:=by
   rcases w29 with ⟨h,_⟩|⟨bb,n,h,_⟩
   ·rw[h]at c9;have:0=s2.n+1:=c9;omega
   ·exact⟨bb,_,by rw[h],rfl⟩
  obtain⟨kk2,hkk2⟩:=at2;have h9n:H7.next+1<H9.next:=by have:=f9 kk2 hkk2;have:=w29.lt hkk2;omega
  rw[nb _ _ (show(H7.new (.cells b.l t_83 false 0 false)).next<H9.next from h9n),chk_s];have own:∀{G:Heap} {s:Sl} {cs:List Value} {e:TypeId} {sz k:Nat},Whole G s cs e sz→s.at k→∃oo st,G.get k=some (.cells cs e oo 0 st):=by
   intro G s cs e sz k h hk;obtain⟨a,ha,rfl⟩:=hk;rcases h with ⟨rfl,_⟩|⟨bb,n,rfl,_,_,oo,st,hg⟩
   ·cases ha
   ·cases ha;exact⟨oo,st,hg⟩
  have gb6:(H5.new (.cells [P0 x] t_100 false 0 false)).get bx=some (.cells b.l t_83 false 0 false):=by rw[Heap.get_new_ne _ _ (by omega)];exact gb5
  have gb8:(H7.new (.cells b.l t_83 false 0 false)).get bx=some (.cells b.l t_83 false 0 false):=by rw[Heap.get_new_ne _ _ (by omega)];exact gb7
  have gb9:=(k9.2 bx (by omega) a3).trans gb7;have hrd:rdsOk [H5,H5.new (.cells [P0 x] t_100 false 0 false),H7,H7.new (.cells b.l t_83 false 0 false),H9] (aliveRds [s2.v,.slice (some ⟨H7.next,0,none⟩) 1 1] H9 4++(aliveRds [.agg ⟨b.l⟩] (H7.new (.cells b.l t_83 false 0 false)) 4++((⟨.load 4 true,[P0 bx],.agg ⟨b.l⟩,0,4⟩:Rd)::(aliveRds [s1.v,.slice (some ⟨H5.next,0,none⟩) 1 1] H7 4++(aliveRds [P0 x] (H5.new (.cells [P0 x] t_100 false 0 false)) 4++[])))))=true:=by
   rw[rdsOk_append,rdsOk_append];have r1:=alive_ok (hs:=[H5,H5.new (.cells [P0 x] t_100 false 0 false),H7,H7.new (.cells b.l t_83 false 0 false),H9]) (n:=4) (H:=H9) (H2:=H9) rfl (vs:=[s2.v,.slice (some ⟨H7.next,0,none⟩) 1 1]) (by
    intro v hv a ll kk e o ho;have old:=append_old (P:=Tryd.prog) (w0:=⟨#[],default,#[],0,0⟩) e9 (by show H9.next≠H7.next+1;omega) a.block o;simp only[List.mem_cons,List.not_mem_nil,or_false]at hv;rcases hv with rfl|rfl
    ·have hat:s2.at a.block:=⟨a,(Value.slice.inj e).1,rfl⟩;have hlt:=l2 _ hat;have h7:=old (by show a.block<H7.next+1;omega) ho;rw[Heap.get_new_ne _ _ (by omega)]at h7;obtain⟨oo,st,hg⟩:=own w27 hat;rw[h7]at hg;cases hg;exact⟨_,_,_,_,_,ho⟩
    ·cases e;have h7:=old (by show H7.next<H7.next+1;omega) ho;rw[Heap.get_new_same]at h7;cases h7;exact⟨_,_,_,_,_,ho⟩)
   have r2:=alive_ok (hs:=[H5,H5.new (.cells [P0 x] t_100 false 0 false),H7,H7.new (.cells b.l t_83 false 0 false),H9]) (n:=4) (H:=H7.new (.cells b.l t_83 false 0 false)) (H2:=H9) rfl (vs:=[.agg ⟨b.l⟩]) (by
    intro v hv a ll kk e o ho;simp only[List.mem_singleton]at hv;subst hv;cases e)
   have r4:=alive_ok (hs:=[H5,H5.new (.cells [P0 x] t_100 false 0 false),H7,H7.new (.cells b.l t_83 false 0 false),H9]) (n:=4) (H:=H7) (H2:=H9) rfl (vs:=[s1.v,.slice (some ⟨H5.next,0,none⟩) 1 1]) (by
    intro v hv a ll kk e o ho;have old:=append_old (P:=Tryd.prog) (w0:=⟨#[],default,#[],0,0⟩) e7 (by show H7.next≠H5.next+1;omega) a.block o;simp only[List.mem_cons,List.not_mem_nil,or_false]at hv;rcases hv with rfl|rfl
    ·have hat:s1.at a.block:=⟨a,(Value.slice.inj e).1,rfl⟩;have hlt:=l1 _ hat;have h5:=old (by show a.block<H5.next+1;omega) ho;rw[Heap.get_new_ne _ _ (by omega)]at h5;obtain⟨oo,st,hg⟩:=own w15 hat;rw[h5]at hg;cases hg;exact⟨_,_,_,_,_,(k9.2 _ (by omega) (a6 _ hat)).trans ho⟩
    ·cases e;have h5:=old (by show H5.next<H5.next+1;omega) ho;rw[Heap.get_new_same]at h5;cases h5;exact⟨_,_,_,_,_,(k9.2 _ (show H5.next<H7.next by omega) fun h=>by have:=l2 _ h;omega).trans ho⟩)
   have r5:=alive_ok (hs:=[H5,H5.new (.cells [P0 x] t_100 false 0 false),H7,H7.new (.cells b.l t_83 false 0 false),H9]) (n:=4) (H:=H5.new (.cells [P0 x] t_100 false 0 false)) (H2:=H9) rfl (vs:=[P0 x]) (by
    intro v hv a ll kk e o ho;simp only[List.mem_singleton]at hv;subst hv;cases e)
   rw[r1,r2];simp only[rdsOk];rw[rdsOk_append,rdsOk_append,r4,r5,show 4+1-0=5 from rfl,rdOk_5,rdAt_s rfl (ly_rd4 gb5 b.len) (same_rc b),rdAt_s rfl (ly_rd4 gb6 b.len) (same_rc b),rdAt_s rfl (ly_rd4 gb7 b.len) (same_rc b),rdAt_s rfl (ly_rd4 gb8 b.len) (same_rc b),rdAt_s rfl (ly_rd4 gb9 b.len) (same_rc b)];rfl
  rw[show chk (rdsOk [H5,H5.new (.cells [P0 x] t_100 false 0 false),H7,H7.new (.cells b.l t_83 false 0 false),H9] _) _=_ from by rw[hrd,chk_s]];simp only[nilP_s];have hkeep9:∀k o,k<H.next→k≠bx→¬s1.at k→¬s2.at k→H.get k=some o→H9.get k=some o:=fun k o h1 h2 h3 h4 h5=>(k9.2 k (by omega) h4).trans ((k7.2 k (by omega) h3).trans (k05.get h1 h5))
  have xb:x≠bx:=fun e=>a1 (e▸hxd);have gx9:=hkeep9 x _ hx xb (fun h=>a4 _ h hxd) (fun h=>a5 _ h hxd) gx;have K9:Keep (fun k=>k=bx∨s1.at k∨s2.at k) H H9:=Keep.trans (Keep.trans (k05.to (S:=fun k=>k=bx∨s1.at k∨s2.at k)) k7 fun _ _ h=>.inr (.inl h)) k9 fun _ _ h=>.inr (.inr h);have ndom:∀k∈(AT.nd x ac pt l r).dom,¬(k=bx∨s1.at k∨s2.at k):=fun k hk e=>by
   rcases e with e|e|e
   ·exact a1 (e▸hk)
   ·exact a4 k e hk
   ·exact a5 k e hk
  have tl9:TR H9 l:=TR.keep K9 tl fun k hk=>ndom k (by simp[AT.dom,hk]);have tr9:TR H9 r:=TR.keep K9 tr fun k hk=>ndom k (by simp[AT.dom,hk]);have hp:(AT.nd x ac pt l r).panes=l.panes++r.panes:=rfl;rw[hp,List.length_append]at hn;have hd1:2+((AT.nd x ac pt l r).ht+(2+d))+1+1+1+1=2+(l.ht+(2+(max l.ht r.ht+1-l.ht+d)))+1+1+1+1:=by rw[hht];omega
  have hd2:2+((AT.nd x ac pt l r).ht+(2+d))+1+1+1+1=2+(r.ht+(2+(max l.ht r.ht+1-r.ht+d)))+1+1+1+1:=by rw[hht];omega
  obtain⟨H10,e10,k10⟩:=lyHasN_s (max l.ht r.ht+1-l.ht+d) tl9 (by omega) p;rw[show ap ⟨(AT.nd x ac pt l r).x,0,none⟩ 1=⟨x,1,none⟩from rfl,show ap ⟨(AT.nd x ac pt l r).x,0,none⟩ 2=⟨x,2,none⟩from rfl,(ld1_s gx9).trans (show _=some (Value.pointer (some ⟨l.x,0,none⟩))from rfl)];simp only[optK_s,asP_s];rw[show X (2+((AT.nd x ac pt l r).ht+(2+d))+1+1+1+1) n_56 [.pointer (some ⟨l.x,0,none⟩),.int .i64 p] H9=some (.bool (decide (p∈l.panes)),H10)from by rw[hd1];exact e10];simp only[callK_s,asB_s];have m10:=k10.1;have gx10:=k10.get (by omega) gx9;have gb10:=k10.get (by omega) gb9;have q1:H10.get H2.next=some (.cells b1.l t_83 false 0 false):=k10.get (by omega) ((k9.2 _ (by omega) fun h=>by have:=l2 _ h;omega).trans ((k7.2 _ (by omega) fun h=>by have:=l1 _ h;omega).trans p1))
  have q2:H10.get H3.next=some (.cells b2.l t_83 false 0 false):=k10.get (by omega) ((k9.2 _ (by omega) fun h=>by have:=l2 _ h;omega).trans ((k7.2 _ (by omega) fun h=>by have:=l1 _ h;omega).trans p2))
  have w1a:Whole H10 s1' (A++[P0 x]) t_100 1:=(w17.keep k9 fun k hk e=>by have:=f7 k hk;have:=l2 k e;omega).keep k10 fun _ _ h=>h;have w2a:Whole H10 s2' (B++b.l) t_83 4:=w29.keep k10 fun _ _ h=>h;have hlt1:∀k,s1'.at k→k<H7.next:=fun k hk=>w17.lt hk
  have go:∀(t:AT) (b':Rc) (dd:Nat),(∀(d m:Nat) (H:Heap) (b:Rc) (bx:Nat) (s1 s2:Sl) (A B:List Value),t.ht<m→TR H t→b.ok→t.panes.length≤100000→H.get bx=some (.cells b.l t_83 false 0 false)→bx<H.next→
   Whole H s1 A t_100 1→Whole H s2 B t_83 4→bx∉t.dom→¬s1.at bx→¬s2.at bx→(∀k,s1.at k→k∉t.dom)→(∀k,s2.at k→k∉t.dom)→(∀k,s1.at k→¬s2.at k)→A.length+t.ht≤100000→B.length+4*t.ht≤400000→
   ∃s1' s2' H',j9 (2+(t.ht+(2+d))+1+1+1+1) m p (some ⟨t.x,0,none⟩) bx s1 s2 H=some (.tuple #[P0 (t.find p b).1.x,.agg ⟨(t.find p b).2.l⟩,s1'.v,s2'.v],H')∧Whole H' s1' (A++(t.around p).map P0) t_100 1∧Whole H' s2' (B++(t.boxes p b).flatMap Rc.l) t_83 4∧Keep (fun k=>k=bx∨s1.at k∨s2.at k) H H')→
   2+((AT.nd x ac pt l r).ht+(2+d))+1+1+1+1=2+(t.ht+(2+dd))+1+1+1+1→t.ht≤max l.ht r.ht→b'.ok→t.panes.length≤100000→TR H10 t→(∀k∈t.dom,k∈(AT.nd x ac pt l r).dom)→
   ∃s1'' s2'' H',j9 (2+((AT.nd x ac pt l r).ht+(2+d))+1+1+1+1) m p (some ⟨t.x,0,none⟩) bx s1' s2' (H10.put bx (.cells b'.l t_83 false 0 false))=some (.tuple #[P0 (t.find p b').1.x,.agg ⟨(t.find p b').2.l⟩,s1''.v,s2''.v],H')∧Whole H' s1'' (A++(x::t.around p).map P0) t_100 1∧Whole H' s2'' (B++(b::t.boxes p b').flatMap Rc.l) t_83 4∧Keep (fun k=>k=bx∨s1.at k∨s2.at k) H H':=by
   intro t b' dd ih hdd hle hok hpl ht10 hsub;have g11:(H10.put bx (.cells b'.l t_83 false 0 false)).get bx=some (.cells b'.l t_83 false 0 false):=by simp
   have n11:(H10.put bx (.cells b'.l t_83 false 0 false)).next=H10.next:=rfl
   have k11:Keep (fun k=>k=bx) H10 (H10.put bx (.cells b'.l t_83 false 0 false)):=Keep.put _ _ _ rfl;generalize H10.put bx (.cells b'.l t_83 false 0 false)=H11 at*;have bn:∀k,s1'.at k→k≠bx:=fun k hk e=>by have:=f7 k hk;omega
   have bn2:∀k,s2'.at k→k≠bx:=fun k hk e=>by have:=f9 k hk;omega
   obtain⟨u1,u2,H',r1,r2,r3,r4⟩:=ih dd m H11 b' bx s1' s2' (A++[P0 x]) (B++b.l) (by omega) (TR.keep k11 ht10 fun k hk e=>a1 (e▸hsub k hk)) hok hpl g11 (by omega) (w1a.keep k11 fun k hk e=>bn k hk e) (w2a.keep k11 fun k hk e=>bn2 k hk e) (fun h=>a1 (hsub _ h)) (fun h=>bn _ h rfl) (fun h=>bn2 _ h rfl) (fun k hk h=>by have:=f7 k hk;have:=hdl k (hsub k h);omega) (fun k hk h=>by have:=f9 k hk;have:=hdl k (hsub k h);omega) (fun k hk h=>by have:=hlt1 k hk;have:=f9 k h;omega) (by rw[List.length_append];simp;omega) (by rw[List.length_append,b.len];omega);rw[hdd];refine⟨u1,u2,H',r1,by simpa using r2,by simpa using r3,?_⟩;refine Keep.trans (Keep.trans (Keep.trans K9 k10 fun _ _ h=>h.elim) k11 fun _ _ h=>.inl h) r4 fun k hk e=>?_;rcases e with e|e|e
   ·exact .inl e
   ·have:=f7 k e;omega
   ·have:=f9 k e;omega
  by_cases hin:p∈l.panes
  ·rw[if_pos (decide_eq_true hin),if_pos hin,if_pos hin,if_pos hin,(ld1_s gx10).trans (show _=some (Value.pointer (some ⟨l.x,0,none⟩))from rfl)];simp only[optK_s,asP_s];rw[ly_ldA q1 b1.len];simp only[optK_s,asA_s];rw[ly_st4 gb10 b.len b1.len b1.one];exact go l b1 _ ihl hd1 (by omega) ok1 (by omega) (TR.keep k10 tl9 fun _ _ h=>h) fun k hk=>by simp[AT.dom,hk]
  ·rw[if_neg (by simpa using hin),if_neg hin,if_neg hin,if_neg hin,(ld1_s gx10).trans (show _=some (Value.pointer (some ⟨r.x,0,none⟩))from rfl)];simp only[optK_s,asP_s];rw[ly_ldA q2 b2.len];simp only[optK_s,asA_s];rw[ly_st4 gb10 b.len b2.len b2.one];exact go r b2 _ ihr hd2 (by omega) ok2 (by omega) (TR.keep k10 tr9 fun _ _ h=>h) fun k hk=>by simp[AT.dom,hk]
theorem lyFind_s(d rows cols:Nat)(hrc:rows≤100000∧cols≤100000)(p:Int){H:Heap}{tb:Nat}{t:AT}(hb:H.get tb=some (.cells [P0 t.x] t_114 false 0 false))(hl:tb<H.next)(ht:TR H t)(hn:t.panes.length≤100000)(hh:t.ht≤100000):∃s1 s2 H',X (2+(t.ht+(2+d))+1+1+1+1+1) n_35 [P0 tb,.int .i64 p,.int .i64 (rows:Int),.int .i64 (cols:Int)] H=some (.tuple #[P0 (t.find p (winRc rows cols)).1.x,.agg ⟨(t.find p (winRc rows cols)).2.l⟩,s1.v,s2.v],H')∧Whole H' s1 ((t.around p).map P0) t_100 1∧Whole H' s2 ((t.boxes p (winRc rows cols)).flatMap Rc.l) t_83 4∧Keep0 H H':=by
 rw[layout_Tree_find_eq];simp only[newK_s];have k1:Keep0 H (H.new (.cells [.int .i64 0,.int .i64 0,.int .i64 0,.int .i64 0] t_83 false 0 false)):=Keep.new _ _;have g1:(H.new (.cells [.int .i64 0,.int .i64 0,.int .i64 0,.int .i64 0] t_83 false 0 false)).get H.next=some (.cells [.int .i64 0,.int .i64 0,.int .i64 0,.int .i64 0] t_83 false 0 false):=by simp
 have n1:(H.new (.cells [.int .i64 0,.int .i64 0,.int .i64 0,.int .i64 0] t_83 false 0 false)).next=H.next+1:=rfl
 generalize H.new (.cells [.int .i64 0,.int .i64 0,.int .i64 0,.int .i64 0] t_83 false 0 false)=H1 at*;have tl1:=(ld1_s (off:=0) (k1.get hl hb)).trans (show _=some (P0 t.x)from rfl);rw[tl1];simp only[optK_s,P0,asP_s];obtain⟨H2,e2,k2⟩:=lyAll_s (2+(t.ht+(2+d))+1+1+1) rows cols H1;rw[e2];simp only[callK_s,asA_s];have m2:=k2.1;have g2:=k2.get (by omega) g1;have hst:∀K,effK (.store 4) [.pointer (some ⟨H.next,0,none⟩),.agg ⟨(winRc rows cols).l⟩] H2 K=K (.tuple #[]) (H2.put H.next (.cells (winRc rows cols).l t_83 false 0 false)):=fun K=>ly_st4 g2 rfl (Rc.len _) (Rc.one _);rw[hst];have tl2:=(ld1_s (off:=0) (k2.get (by omega) (k1.get hl hb))).trans (show _=some (P0 t.x)from rfl);rw[show rdsOk _ _=true from by simp only[rdsOk,Bool.and_true];rw[show 1+1-0=2 from rfl,rdOk_2,rdAt_s rfl (show readD (.load 1 false) [.pointer (some ⟨tb,0,none⟩)] H1=some (.pointer (some ⟨t.x,0,none⟩))from tl1) (same_ptr _),rdAt_s rfl (show readD (.load 1 false) [.pointer (some ⟨tb,0,none⟩)] H2=some (.pointer (some ⟨t.x,0,none⟩))from tl2) (same_ptr _)];rfl];simp only[chk_s];have g3:(H2.put H.next (.cells (winRc rows cols).l t_83 false 0 false)).get H.next=some (.cells (winRc rows cols).l t_83 false 0 false):=by simp
 have n3:(H2.put H.next (.cells (winRc rows cols).l t_83 false 0 false)).next=H2.next:=rfl
 have k3:Keep (fun k=>k=H.next) H2 (H2.put H.next (.cells (winRc rows cols).l t_83 false 0 false)):=Keep.put _ _ _ rfl;generalize H2.put H.next (.cells (winRc rows cols).l t_83 false 0 false)=H3 at*
 have k03:Keep0 H H3:=(k1.trans k2).fresh k3 fun k e=>by have e':k=H.next:=e;omega
 have hdl:=TR.dom_lt ht;obtain⟨s1,s2,H4,e4,w1,w2,k4⟩:=lyFind_loop p t d NN H3 (winRc rows cols) H.next Sl.nil Sl.nil [] [] (by rw[NN_eq];omega) (TR.keep k03 ht fun _ _ h=>h) (winRc_ok hrc) hn g3 (by omega) (.inl ⟨rfl,rfl⟩) (.inl ⟨rfl,rfl⟩)
  (fun h=>by have:=hdl _ h;omega) Sl.at_nil Sl.at_nil (fun k h=>absurd h Sl.at_nil) (fun k h=>absurd h Sl.at_nil) (fun k h=>absurd h Sl.at_nil) (by simp;omega) (by simp;omega)
 refine⟨s1,s2,H4,e4,by simpa using w1,by simpa using w2,k03.fresh (S:=fun k=>k=H.next∨Sl.nil.at k∨Sl.nil.at k) k4 fun k e=>?_⟩;rcases e with e|e|e
 ·omega
 ·exact absurd e Sl.at_nil
 ·exact absurd e Sl.at_nil
end Go.Proofs.YtjjchnjcmnkpdaaDoor.dec
namespace Go.Proofs.YtjjchnjcmnkpdaaDoor.dec
open Go Go.Cm
def AT.split(p more:Int)(ac:Bool)(pt:Int)(n1 n2:Nat):AT→AT
 | .leaf x _=>.nd x ac pt (.leaf n1 p) (.leaf n2 more)
 | .nd x a q l r=>if p∈l.panes then .nd x a q (l.split p more ac pt n1 n2) r else .nd x a q l (r.split p more ac pt n1 n2)
theorem AT.split_x(p more:Int)(ac:Bool)(pt:Int)(n1 n2:Nat):∀t:AT,(t.split p more ac pt n1 n2).x=t.x
 | .leaf _ _=>rfl
 | .nd x a q l r=>by unfold AT.split;split<;>rfl
theorem AT.find_leaf(p:Int):∀(t:AT) (b:Rc),∃x q,(t.find p b).1=.leaf x q∧x∈t.dom∧(p∈t.panes→q=p)
 | .leaf x q,b=>⟨x,q,rfl,by simp[AT.dom],fun h=>by simp[AT.panes]at h;exact h.symm⟩
 | .nd x a pt l r,b=>by
   unfold AT.find;split
   ·rename_i h;obtain⟨y,q,h1,h2,h3⟩:=l.find_leaf p (partsP a pt b).1;exact⟨y,q,h1,by simp[AT.dom,h2],fun _=>h3 h⟩
   ·rename_i h;obtain⟨y,q,h1,h2,h3⟩:=r.find_leaf p (partsP a pt b).2;refine⟨y,q,h1,by simp[AT.dom,h2],fun hp=>h3 ?_⟩;simp only[AT.panes,List.mem_append]at hp;exact hp.resolve_left h
theorem AT.split_panes(p more:Int)(ac:Bool)(pt:Int)(n1 n2:Nat):∀t:AT,(t.split p more ac pt n1 n2).panes.length=t.panes.length+1
 | .leaf _ _=>rfl
 | .nd x a q l r=>by
   unfold AT.split;split
   ·simp only[AT.panes,List.length_append,l.split_panes p more ac pt n1 n2];omega
   ·simp only[AT.panes,List.length_append,r.split_panes p more ac pt n1 n2];omega
theorem AT.split_dom(p more:Int)(ac:Bool)(pt:Int)(n1 n2:Nat):∀t:AT,∀k,k∈(t.split p more ac pt n1 n2).dom↔k∈t.dom∨k=n1∨k=n2
 | .leaf x _,k=>by simp[AT.split,AT.dom]
 | .nd x a q l r,k=>by
   unfold AT.split;split
   ·simp only[AT.dom,List.mem_cons,List.mem_append,l.split_dom p more ac pt n1 n2 k];constructor<;>intro h<;>grind
   ·simp only[AT.dom,List.mem_cons,List.mem_append,r.split_dom p more ac pt n1 n2 k];constructor<;>intro h<;>grind
theorem TR.split{H H':Heap}{p more:Int}{ac:Bool}{pt:Int}{n1 n2:Nat}{q0:Int}(b:Rc):∀{t:AT},TR H t→t.dom.Nodup→Keep (fun k=>k=(t.find p b).1.x) H H'→
  H'.get (t.find p b).1.x=some (.cells (ndC q0 (some ⟨n1,0,none⟩) (some ⟨n2,0,none⟩) ac pt) t_105 false 0 false)→TR H' (.leaf n1 p)→TR H' (.leaf n2 more)→TR H' (t.split p more ac pt n1 n2)
 | .leaf x q,ht,_,hk,hg,t1,t2=>⟨Nat.lt_of_lt_of_le ht.1 hk.1,⟨q0,hg⟩,t1,t2⟩
 | .nd x a pq l r,⟨h1,⟨pp,h2⟩,h3,h4⟩,hnd,hk,hg,t1,t2=>by
   simp only[AT.dom,List.nodup_cons,List.nodup_append,List.mem_append]at hnd;obtain⟨d1,d2,d3,d4⟩:=hnd;have hfx:(AT.nd x a pq l r).find p b=if p∈l.panes then l.find p (partsP a pq b).1 else r.find p (partsP a pq b).2:=rfl;unfold AT.split;by_cases hp:p∈l.panes
   ·rw[if_pos hp]at hfx⊢;rw[hfx]at hk hg;obtain⟨y,qq,e1,e2,_⟩:=l.find_leaf p (partsP a pq b).1;have ey:(l.find p (partsP a pq b).1).1.x=y:=by rw[e1];rfl
    refine⟨Nat.lt_of_lt_of_le h1 hk.1,⟨pp,?_⟩,TR.split _ h3 d2 hk hg t1 t2,TR.keep hk h4 fun k hk' e=>?_⟩
    ·rw[AT.split_x];exact(hk.2 x h1 fun e=>d1 (.inl (by rw[e,ey];exact e2))).trans h2
    ·rw[ey]at e;subst e;exact d4 _ e2 _ hk' rfl
   ·rw[if_neg hp]at hfx⊢;rw[hfx]at hk hg;obtain⟨y,qq,e1,e2,_⟩:=r.find_leaf p (partsP a pq b).2;have ey:(r.find p (partsP a pq b).2).1.x=y:=by rw[e1];rfl
    refine⟨Nat.lt_of_lt_of_le h1 hk.1,⟨pp,?_⟩,TR.keep hk h3 fun k hk' e=>?_,TR.split _ h4 d3 hk hg t1 t2⟩
    ·rw[AT.split_x];exact(hk.2 x h1 fun e=>d1 (.inr (by rw[e,ey];exact e2))).trans h2
    ·rw[ey]at e;subst e;exact d4 _ hk' _ e2 rfl
end Go.Proofs.YtjjchnjcmnkpdaaDoor.dec
namespace Go.Proofs.YtjjchnjcmnkpdaaDoor.dec
open Go Go.Cm
attribute [local congr] optK_congr asI_congr asN_congr asB_congr asS_congr asP_congr asA_congr asSL_congr callK_congr castT_congr chk_congr
theorem ly_asP0{α:Type}(x:Nat)(K:Option Addr→Option α):asP (P0 x) K=K (some ⟨x,0,none⟩):=rfl
def AT.leaves:AT→List (Nat×Int)
 | .leaf x q=>[(x,q)]
 | .nd _ _ _ l r=>l.leaves++r.leaves
theorem TR.leaf_at{H:Heap}{y:Nat}{q:Int}:∀{t:AT},TR H t→(y,q)∈t.leaves→∃qq a pt,H.get y=some (.cells (ndC qq none none a pt) t_105 false 0 false)
 | .leaf x q',⟨_,ac,pt,h⟩,hm=>by simp only[AT.leaves,List.mem_singleton,Prod.mk.injEq]at hm;obtain⟨rfl,rfl⟩:=hm;exact⟨_,ac,pt,h⟩
 | .nd x a q' l r,⟨_,_,h3,h4⟩,hm=>by
   simp only[AT.leaves,List.mem_append]at hm;rcases hm with hm|hm
   ·exact TR.leaf_at h3 hm
   ·exact TR.leaf_at h4 hm
theorem AT.find_sub(p:Int){y:Nat}{q:Int}:∀(t:AT) (b:Rc),(t.find p b).1=.leaf y q→(y,q)∈t.leaves
 | .leaf x q',b,h=>by simp only[AT.find,AT.leaf.injEq]at h;obtain⟨rfl,rfl⟩:=h;simp[AT.leaves]
 | .nd x a q' l r,b,h=>by
   unfold AT.find at h;split at h
   ·exact List.mem_append_left _ (l.find_sub p _ h)
   ·exact List.mem_append_right _ (r.find_sub p _ h)
theorem ly_cast4(x:Nat)(a:Array Value)(s1 s2:Sl)(K:List Value→Res):castT [.ptr,.agg,.sl,.sl] (.tuple #[P0 x,.agg a,s1.v,s2.v]) K=K [P0 x,.agg a,s1.v,s2.v]:=rfl
theorem ly_cast4'(x:Nat)(a:Array Value)(s1 s2:Sl)(K:List Value→Res):castT [.ptr,.agg,.sl,.sl] (.tuple ⟨[P0 x,.agg a,s1.v,s2.v]⟩) K=K [P0 x,.agg a,s1.v,s2.v]:=rfl
theorem ly_ldA5{H:Heap}{b:Nat}{x:List Value}{e:TypeId}{o st:Bool}{fz:Nat}(h:H.get b=some (.cells x e o fz st))(hx:x.length=5):ldA H ⟨b,0,none⟩ 5=some (.agg ⟨x⟩):=by
 have:readD (.load 5 true) [P0 b] H=some (.agg ⟨x⟩):=by simp only[readD,if_true];rw[ldN_s h (by omega)];simp only[List.drop_zero,List.take_of_length_le (Nat.le_of_eq hx)]
 simp only[readD,if_true]at this;exact this
theorem ly_st5{H:Heap}{b:Nat}{l c:List Value}{e:TypeId}{K:Value→Heap→Res}(h:H.get b=some (.cells l e false 0 false))(hl:l.length=5)(hc:c.length=5)(h1:c.all one=true):effK (.store 5) [P0 b,.agg ⟨c⟩] H K=K (.tuple #[]) (H.put b (.cells c e false 0 false)):=by
 have:Heap.stN H ⟨b,0,none⟩ c=some (H.put b (.cells c e false 0 false)):=by simp only[Heap.stN,h];rw[if_pos ⟨by omega,Nat.le_refl _⟩];simp only[splice,List.take_zero,List.nil_append,Nat.zero_add];rw[List.drop_eq_nil_of_le (by omega),List.append_nil]
 simp only[effK];rw[if_neg (by omega),show cellsL (.agg ⟨c⟩)=c from rfl,if_pos ⟨hc,h1,by omega⟩,this];rfl
def splitE(t:AT)(p:Int)(ac:Bool)(b:Rc):Int:=if 12≤t.panes.length then 2 else if wideP ac (t.find p b).2<3 then 17 else 0
theorem AT.find_ok{p:Int}:∀{t:AT} {b:Rc},b.ok→(t.find p b).2.ok
 | .leaf _ _,b,h=>h
 | .nd x a q l r,b,h=>by
   obtain⟨o1,o2⟩:=partsP_ok (ac:=a) (pt:=q) h;unfold AT.find;split
   ·exact AT.find_ok o1
   ·exact AT.find_ok o2
theorem lySplit_s(d rows cols:Nat)(hrc:rows≤100000∧cols≤100000)(p more:Int)(ac:Bool){H:Heap}{tb:Nat}{t:AT}(hb:H.get tb=some (.cells [P0 t.x] t_114 false 0 false))(hl:tb<H.next)(ht:TR H t)(hnd:t.dom.Nodup)(hn:t.panes.length≤100000)(hh:t.ht≤100000)(hp:p∈t.panes)(hmo:more∉t.panes):∃H',X (2+(t.ht+(2+d))+1+1+1+1+1+1) n_19 [P0 tb,.int .i64 p,.int .i64 more,.bool ac,.int .i64 (rows:Int),.int .i64 (cols:Int)] H=some (.int .i64 (splitE t p ac (winRc rows cols)),H')∧((splitE t p ac (winRc rows cols)≠0∧Keep0 H H')∨(splitE t p ac (winRc rows cols)=0∧∃n1 n2,TR H' (t.split p more ac (wideP ac (t.find p (winRc rows cols)).2/2) n1 n2)∧H.next≤n1∧n1<n2∧n2<H'.next∧Keep (fun k=>k=(t.find p (winRc rows cols)).1.x) H H')):=by
 rw[layout_Tree_Split_eq];obtain⟨H1,e1,k1⟩:=lyHas_s (d+2) hb hl ht hn p;rw[show 2+(t.ht+(2+d))+1+1+1+1+1=2+(t.ht+(2+(d+2)))+1+1+1 by omega,e1];simp only[callK_s,asB_s];rw[if_neg (by simp[hp])];obtain⟨H2,e2,k2⟩:=lyHas_s (d+2) (k1.get hl hb) (Nat.lt_of_lt_of_le hl k1.1) (TR.keep k1 ht fun _ _ h=>h) hn more;rw[e2];simp only[callK_s,asB_s];rw[if_neg (by simp[hmo])];have k12:=k1.trans k2;obtain⟨s3,H3,e3,w3,k3,_⟩:=lyPanes_s (d+3) (k12.get hl hb) (Nat.lt_of_lt_of_le hl k12.1) (TR.keep k12 ht fun _ _ h=>h) (by omega);rw[show 2+(t.ht+(2+(d+2)))+1+1+1=2+(t.ht+(2+(d+3)))+1+1 by omega,e3];simp only[callK_s,asSL_k];have hs3:s3.n=t.panes.length:=by have:=w3.len.1;rw[List.length_map]at this;omega
 have k13:=k12.trans k3;unfold splitE;by_cases h12:12≤t.panes.length
 ·rw[if_pos (decide_eq_true (show(12:Int)≤(s3.n:Int)by omega)),if_pos h12];exact⟨H3,rfl,.inl ⟨by decide,k13⟩⟩
 ·rw[if_neg (show¬decide ((12:Int)≤(s3.n:Int))=true by simp;omega),if_neg h12];obtain⟨f1,f2,H4,e4,_,_,k4⟩:=lyFind_s d rows cols hrc p (k13.get hl hb) (Nat.lt_of_lt_of_le hl k13.1) (TR.keep k13 ht fun _ _ h=>h) hn hh;rw[show 2+(t.ht+(2+(d+3)))+1+1=2+(t.ht+(2+d))+1+1+1+1+1 by omega,e4];simp only[callK_s,ly_cast4,ly_cast4',List.getElem?_cons_zero,List.getElem?_cons_succ,optK_s,ly_asP0,asA_s,asSL_k,newK_s];have k14:=k13.trans k4;have hfo:(t.find p (winRc rows cols)).2.ok:=AT.find_ok (winRc_ok hrc);obtain⟨y,q,ef,efd,_⟩:=t.find_leaf p (winRc rows cols);have exf:(t.find p (winRc rows cols)).1.x=y:=by rw[ef];rfl
  have hdl:=TR.dom_lt ht;have hy:=hdl y efd;have hyl:∃qq a pt,H.get y=some (.cells (ndC qq none none a pt) t_105 false 0 false):=TR.leaf_at ht (t.find_sub p (winRc rows cols) ef);obtain⟨qq,a0,pt0,gy⟩:=hyl;generalize hbx:(t.find p (winRc rows cols)).2=bx at*;rw[exf];have m4:=k14.1;have k5:Keep0 H4 (H4.new (.cells [.int .i64 0,.int .i64 0,.int .i64 0,.int .i64 0] t_83 false 0 false)):=Keep.new _ _;have g5:(H4.new (.cells [.int .i64 0,.int .i64 0,.int .i64 0,.int .i64 0] t_83 false 0 false)).get H4.next=some (.cells [.int .i64 0,.int .i64 0,.int .i64 0,.int .i64 0] t_83 false 0 false):=by simp
  have n5:(H4.new (.cells [.int .i64 0,.int .i64 0,.int .i64 0,.int .i64 0] t_83 false 0 false)).next=H4.next+1:=rfl
  generalize H4.new (.cells [.int .i64 0,.int .i64 0,.int .i64 0,.int .i64 0] t_83 false 0 false)=H5 at*;rw[ly_st4 g5 rfl bx.len bx.one];have k6:Keep0 H4 (H5.put H4.next (.cells bx.l t_83 false 0 false)):=k5.fresh (S:=fun k=>k=H4.next) (Keep.put _ _ _ rfl) fun k e=>by have e':k=H4.next:=e;omega
  have g6:(H5.put H4.next (.cells bx.l t_83 false 0 false)).get H4.next=some (.cells bx.l t_83 false 0 false):=by simp
  have n6:(H5.put H4.next (.cells bx.l t_83 false 0 false)).next=H5.next:=rfl
  generalize H5.put H4.next (.cells bx.l t_83 false 0 false)=H6 at*
  have k7:Keep0 H6 (H6.new (.cells [.int .i64 p,.pointer none,.pointer none,.bool false,.int .i64 0] t_105 false 0 false)):=Keep.new _ _;have g7:(H6.new (.cells [.int .i64 p,.pointer none,.pointer none,.bool false,.int .i64 0] t_105 false 0 false)).get H6.next=some (.cells (ndC p none none false 0) t_105 false 0 false):=by simp[ndC]
  have n7:(H6.new (.cells [.int .i64 p,.pointer none,.pointer none,.bool false,.int .i64 0] t_105 false 0 false)).next=H6.next+1:=rfl
  generalize H6.new (.cells [.int .i64 p,.pointer none,.pointer none,.bool false,.int .i64 0] t_105 false 0 false)=H7 at*;have k8:Keep0 H7 (H7.new (.cells [.int .i64 more,.pointer none,.pointer none,.bool false,.int .i64 0] t_105 false 0 false)):=Keep.new _ _;have g8:(H7.new (.cells [.int .i64 more,.pointer none,.pointer none,.bool false,.int .i64 0] t_105 false 0 false)).get H7.next=some (.cells (ndC more none none false 0) t_105 false 0 false):=by simp[ndC]
  have n8:(H7.new (.cells [.int .i64 more,.pointer none,.pointer none,.bool false,.int .i64 0] t_105 false 0 false)).next=H7.next+1:=rfl
  generalize H7.new (.cells [.int .i64 more,.pointer none,.pointer none,.bool false,.int .i64 0] t_105 false 0 false)=H8 at*;have k9:Keep0 H8 (H8.new (.cells [.int .i64 0,.pointer none,.pointer none,.bool false,.int .i64 0] t_105 false 0 false)):=Keep.new _ _;have g9:(H8.new (.cells [.int .i64 0,.pointer none,.pointer none,.bool false,.int .i64 0] t_105 false 0 false)).get H8.next=some (.cells [.int .i64 0,.pointer none,.pointer none,.bool false,.int .i64 0] t_105 false 0 false):=by simp
  have n9:(H8.new (.cells [.int .i64 0,.pointer none,.pointer none,.bool false,.int .i64 0] t_105 false 0 false)).next=H8.next+1:=rfl
  generalize H8.new (.cells [.int .i64 0,.pointer none,.pointer none,.bool false,.int .i64 0] t_105 false 0 false)=H9 at*;have es:Heap.stN H9 ⟨H8.next,0,none⟩ [.int .i64 0,P0 H6.next,P0 H7.next,.bool ac,.int .i64 0]=some (H9.put H8.next (.cells (ndC 0 (some ⟨H6.next,0,none⟩) (some ⟨H7.next,0,none⟩) ac 0) t_105 false 0 false)):=by simp only[Heap.stN,g9];rfl
  rw[es];simp only[optK_s];have k49:Keep0 H4 H9:=((k6.trans k7).trans k8).trans k9;have k10:Keep0 H4 (H9.put H8.next (.cells (ndC 0 (some ⟨H6.next,0,none⟩) (some ⟨H7.next,0,none⟩) ac 0) t_105 false 0 false)):=k49.fresh (S:=fun k=>k=H8.next) (Keep.put _ _ _ rfl) fun k e=>by have e':k=H8.next:=e;omega
  have g10:(H9.put H8.next (.cells (ndC 0 (some ⟨H6.next,0,none⟩) (some ⟨H7.next,0,none⟩) ac 0) t_105 false 0 false)).get H8.next=some (.cells (ndC 0 (some ⟨H6.next,0,none⟩) (some ⟨H7.next,0,none⟩) ac 0) t_105 false 0 false):=by simp
  have kp10:Keep (fun k=>k=H8.next) H9 (H9.put H8.next (.cells (ndC 0 (some ⟨H6.next,0,none⟩) (some ⟨H7.next,0,none⟩) ac 0) t_105 false 0 false)):=Keep.put _ _ _ rfl;have n10:(H9.put H8.next (.cells (ndC 0 (some ⟨H6.next,0,none⟩) (some ⟨H7.next,0,none⟩) ac 0) t_105 false 0 false)).next=H9.next:=rfl
  generalize H9.put H8.next (.cells (ndC 0 (some ⟨H6.next,0,none⟩) (some ⟨H7.next,0,none⟩) ac 0) t_105 false 0 false)=H10 at*
  have b10:H10.get H4.next=some (.cells bx.l t_83 false 0 false):=(kp10.2 _ (by omega) (by show¬H4.next=H8.next;omega)).trans (k9.get (by omega) (k8.get (by omega) (k7.get (by omega) g6)))
  have c10:H10.get H6.next=some (.cells (ndC p none none false 0) t_105 false 0 false):=(kp10.2 _ (by omega) (by show¬H6.next=H8.next;omega)).trans (k9.get (by omega) (k8.get (by omega) g7))
  have d10:H10.get H7.next=some (.cells (ndC more none none false 0) t_105 false 0 false):=(kp10.2 _ (by omega) (by show¬H7.next=H8.next;omega)).trans (k9.get (by omega) g8)
  rw[ly_ldA b10 bx.len];simp only[optK_s,asA_s];obtain⟨H11,e11,k11⟩:=lyWide_s (d:=2+(t.ht+(2+d))+1+1+1+1) g10 (by omega) bx;rw[e11];simp only[callK_s,asI_s];have m11:=k11.1;obtain⟨w1,w2⟩:=wideP_ok (ac:=ac) hfo;by_cases hw:wideP ac bx<3
  ·rw[if_pos (decide_eq_true hw),if_pos hw];exact⟨H11,rfl,.inl ⟨by decide,(k14.trans k10).trans k11⟩⟩
  ·rw[if_neg (show¬decide (wideP ac bx<3)=true by simpa using hw),if_neg hw];have g11:=k11.get (by omega) g10;rw[show Int.tdiv (wideP ac bx) 2=wideP ac bx/2 from Int.tdiv_eq_ediv_of_nonneg w1,lyw (n:=wideP ac bx/2) (by omega),(st1_s (v:=.int .i64 (wideP ac bx/2)) g11 (by show 4<5;omega) (by omega)).trans (show _=some (H11.put H8.next (.cells (ndC 0 (some ⟨H6.next,0,none⟩) (some ⟨H7.next,0,none⟩) ac (wideP ac bx/2)) t_105 false 0 false))from rfl)];simp only[optK_s];have g12:(H11.put H8.next (.cells (ndC 0 (some ⟨H6.next,0,none⟩) (some ⟨H7.next,0,none⟩) ac (wideP ac bx/2)) t_105 false 0 false)).get H8.next=some (.cells (ndC 0 (some ⟨H6.next,0,none⟩) (some ⟨H7.next,0,none⟩) ac (wideP ac bx/2)) t_105 false 0 false):=by simp
   have kp12:Keep (fun k=>k=H8.next) H11 (H11.put H8.next (.cells (ndC 0 (some ⟨H6.next,0,none⟩) (some ⟨H7.next,0,none⟩) ac (wideP ac bx/2)) t_105 false 0 false)):=Keep.put _ _ _ rfl;have n12:(H11.put H8.next (.cells (ndC 0 (some ⟨H6.next,0,none⟩) (some ⟨H7.next,0,none⟩) ac (wideP ac bx/2)) t_105 false 0 false)).next=H11.next:=rfl
   generalize H11.put H8.next (.cells (ndC 0 (some ⟨H6.next,0,none⟩) (some ⟨H7.next,0,none⟩) ac (wideP ac bx/2)) t_105 false 0 false)=H12 at*
   rw[ly_ldA5 g12 rfl];simp only[optK_s,asA_s,nilP_s];have k012:Keep0 H H12:=((k14.trans k10).trans k11).fresh (S:=fun k=>k=H8.next) kp12 fun k e=>by have e':k=H8.next:=e;omega
   have gy12:=k012.get hy gy;rw[show(Value.pointer (some ⟨y,0,none⟩))=P0 y from rfl,ly_st5 gy12 rfl rfl rfl];have kp:Keep (fun k=>k=y) H12 (H12.put y (.cells (ndC 0 (some ⟨H6.next,0,none⟩) (some ⟨H7.next,0,none⟩) ac (wideP ac bx/2)) t_105 false 0 false)):=Keep.put _ _ _ rfl;have gz:(H12.put y (.cells (ndC 0 (some ⟨H6.next,0,none⟩) (some ⟨H7.next,0,none⟩) ac (wideP ac bx/2)) t_105 false 0 false)).get y=some (.cells (ndC 0 (some ⟨H6.next,0,none⟩) (some ⟨H7.next,0,none⟩) ac (wideP ac bx/2)) t_105 false 0 false):=by simp
   have n13:(H12.put y (.cells (ndC 0 (some ⟨H6.next,0,none⟩) (some ⟨H7.next,0,none⟩) ac (wideP ac bx/2)) t_105 false 0 false)).next=H12.next:=rfl
   generalize H12.put y (.cells (ndC 0 (some ⟨H6.next,0,none⟩) (some ⟨H7.next,0,none⟩) ac (wideP ac bx/2)) t_105 false 0 false)=H13 at*;have kall:Keep (fun k=>k=y) H H13:=Keep.trans (k012.to (S:=fun k=>k=y)) kp fun _ _ h=>h;have c13:H13.get H6.next=some (.cells (ndC p none none false 0) t_105 false 0 false):=(kp.2 _ (by omega) (by show¬H6.next=y;omega)).trans ((kp12.2 _ (by omega) (by show¬H6.next=H8.next;omega)).trans (k11.get (by omega) c10))
   have d13:H13.get H7.next=some (.cells (ndC more none none false 0) t_105 false 0 false):=(kp.2 _ (by omega) (by show¬H7.next=y;omega)).trans ((kp12.2 _ (by omega) (by show¬H7.next=H8.next;omega)).trans (k11.get (by omega) d10))
   refine⟨H13,rfl,.inr ⟨trivial,H6.next,H7.next,TR.split (winRc rows cols) ht hnd (by rw[exf];exact kall) (by rw[exf];exact gz) ⟨by omega,false,0,c13⟩ ⟨by omega,false,0,d13⟩,by omega,by omega,by omega,kall⟩⟩
def AT.small:AT→Prop
 | .leaf _ p=>0≤p∧p<100
 | .nd _ _ pt l r=>(0≤pt∧pt<100)∧l.small∧r.small
def AT.size:AT→Nat
 | .leaf _ _=>1
 | .nd _ _ _ l r=>l.size+r.size+1
def visLine:AT→Rc→List Value:=fun t b=>match t with
 | .leaf _ _=>[]
 | .nd _ ac pt _ _=>if 3≤wideP ac b then(sliceP ac b (heldP pt (wideP ac b)) 1).l++[.bool ac]else []
theorem ly_fill5(r:Rc)(ac:Bool):fillL [(0,4),(4,1)] [.agg ⟨r.l⟩,.bool ac] [.int .i64 0,.int .i64 0,.int .i64 0,.int .i64 0,.bool false]=some (r.l++[.bool ac]):=by simp only[fillL];rw[if_pos ⟨rfl,by decide,r.one⟩,if_pos ⟨rfl,(show 4+1≤5 from Nat.le_refl 5),rfl⟩];rfl
theorem ly_fill5'(r:Rc)(ac:Bool):fillL [(0,5)] [.agg ⟨r.l++[.bool ac]⟩] [.int .i64 0,.int .i64 0,.int .i64 0,.int .i64 0,.bool false]=some (r.l++[.bool ac]):=by simp only[fillL];rw[if_pos ⟨rfl,by decide,rfl⟩];rfl
theorem lines_vis(o:Nat):Vis 3 n_45 o t_84 t_87 5 visLine:=by
 intro d H t b s acc ht hb hg ho hs hlen;rw[show 3+d=(2+d)+1 by omega,layout_Tree_Lines_1_eq,ly_box b.one];have k1:Keep0 H (H.new (.cells b.l t_83 false 0 false)):=Keep.new _ _;have g1:(H.new (.cells b.l t_83 false 0 false)).get H.next=some (.cells b.l t_83 false 0 false):=by simp
 have n1:(H.new (.cells b.l t_83 false 0 false)).next=H.next+1:=rfl
 generalize H.new (.cells b.l t_83 false 0 false)=H1 at*;have t1:TR H1 t:=TR.keep k1 ht fun _ _ h=>h;have hg1:=hg.keep k1 id fun _ _ h=>h;rw[ly_rd4 g1 b.len];simp only[optK_s,asA_s];have node:∃pp a c ac pt,H1.get t.x=some (.cells (ndC pp a c ac pt) t_105 false 0 false):=by
  cases t with
  |leaf x p=>obtain⟨_,ac,pt,h⟩:=t1;exact⟨_,_,_,ac,pt,h⟩
  |nd x ac pt l r=>obtain⟨_,⟨p,h⟩,_⟩:=t1;exact⟨p,_,_,ac,pt,h⟩
 obtain⟨pp,a,c,ac,pt,gx⟩:=node;obtain⟨H2,e2,k2⟩:=lyWide_s (d:=1+d) gx t1.lt b;rw[show 2+d=(1+d)+1 by omega,e2];simp only[callK_s,asI_s];have t2:TR H2 t:=TR.keep k2 t1 fun _ _ h=>h;have hg2:=hg1.keep k2 id fun _ _ h=>h;rw[lyLeaf_s _ t2];simp only[callK_s,asB_s];have k12:=k1.trans k2;have m12:=k12.1;obtain⟨w1,w2⟩:=wideP_ok (ac:=ac) hb;cases t with
 |leaf x p=>rw[if_neg (by simp),j29_eq,if_neg (by decide)];exact⟨s,H2,rfl,by simpa[visLine]using hg2,k12.to,.inl rfl⟩
 |nd x ac' pt' l r=>
  have hsame:ac'=ac∧pt'=pt:=by obtain⟨_,⟨p,h⟩,_⟩:=t1;rw[show(AT.nd x ac' pt' l r).x=x from rfl,h]at gx;simp only[ndC,Option.some.injEq,CObj.cells.injEq,List.cons.injEq,Value.bool.injEq,Value.int.injEq]at gx;exact⟨gx.1.2.2.2.1,gx.1.2.2.2.2.1.2⟩
  obtain⟨rfl,rfl⟩:=hsame;rw[if_pos (by simp),j29_eq];have gx2:=k2.get t1.lt gx;have hx2:(AT.nd x ac' pt' l r).x<H2.next:=t2.lt
  by_cases h3:3≤wideP ac' b
  ·rw[if_pos (by rw[decide_eq_true h3])];have hlo:=hg2.lt;have ol:=(ld1_s (off:=0) hg2.get).trans (show _=some s.v from rfl);have gb2:=k2.get (by omega) g1;rw[ol];simp only[optK_s,asSL_k];rw[ly_rd4 gb2 b.len];simp only[optK_s,asA_s];rw[lyHeld_s (d:=1+d) gx2 (n:=wideP ac' b) (by omega)];simp only[callK_s,asI_s];obtain⟨v1,v2⟩:=heldP_ok (pt:=pt') h3;obtain⟨o1,o2,o3,o4,o5,o6⟩:=hb;obtain⟨H3,e3,k3⟩:=lySlice_s (d:=1+d) gx2 hx2 b (heldP pt' (wideP ac' b)) 1 (lyw (by omega)) (lyw (by omega));rw[e3];simp only[callK_s,asA_s];have gx3:=k3.get hx2 gx2;have hg3:=hg2.keep k3 id fun _ _ h=>h;have m3:=k3.1;rw[(ld1_s gx3).trans (show _=some (Value.bool ac')from rfl)];simp only[optK_s,asB_s,ly_fill5,ly_fill5',newK_s];have hvl:visLine (.nd x ac' pt' l r) b=(sliceP ac' b (heldP pt' (wideP ac' b)) 1).l++[.bool ac']:=by simp only[visLine];rw[if_pos h3]
   rw[hvl];generalize sliceP ac' b (heldP pt' (wideP ac' b)) 1=rr at*;have hsn:=hg3.whole.len.1;obtain⟨s',H5,e5,w5,k5,k5',f5,_⟩:=push_whole (bytes:=40) (new:=rr.l++[.bool ac']) hg3.whole rfl (by omega) (by omega) (by omega);rw[e5];simp only[asSL_k];have hlo3:=hg3.lt;have go:H5.get o=some (.cells [s.v] t_84 false 0 false):=(k5.2 o hlo3 hg3.apart).trans hg3.get;rw[(st1_s (v:=s'.v) go (by show 0<1;omega) (by omega)).trans (show _=some (H5.put o (.cells [s'.v] t_84 false 0 false))from rfl)];simp only[optK_s];have kn:Keep0 H3 (H3.new (.cells (rr.l++[.bool ac']) t_87 false 0 false)):=Keep.new _ _;have q1:readD (.load 1 false) [.pointer (some ⟨x,3,none⟩)] H2=some (.bool ac'):=(ld1_s gx2).trans (show _=some (Value.bool ac')from rfl);have q2:readD (.load 1 false) [.pointer (some ⟨x,3,none⟩)] H3=some (.bool ac'):=(ld1_s gx3).trans (show _=some (Value.bool ac')from rfl);have q3:readD (.load 1 false) [P0 o] H2=some s.v:=ol;have q4:readD (.load 1 false) [P0 o] H3=some s.v:=(ld1_s (off:=0) hg3.get).trans (show _=some s.v from rfl);have q5:readD (.load 1 false) [P0 o] (H3.new (.cells (rr.l++[.bool ac']) t_87 false 0 false))=some s.v:=(ld1_s (off:=0) (kn.get hlo3 hg3.get)).trans (show _=some s.v from rfl);rw[show rdsOk _ _=true from by simp only[rdsOk,Bool.and_true];rw[show 2+1-0=3 from rfl,show 1+1-0=2 from rfl,show 3+1-0=4 from rfl,rdOk_3,rdOk_2,rdOk_4,rdAt_s rfl q1 (same_bool _),rdAt_s rfl q1 (same_bool _),rdAt_s rfl q2 (same_bool _),rdAt_s rfl (ly_rd4 gb2 b.len) (same_rc b),rdAt_s rfl (ly_rd4 gb2 b.len) (same_rc b),rdAt_s rfl q3 (same_sl _ _ _),rdAt_s rfl q3 (same_sl _ _ _),rdAt_s rfl q4 (same_sl _ _ _),rdAt_s rfl q5 (same_sl _ _ _)];rfl];simp only[chk_s];have kp:Keep (fun k=>k=o) H5 (H5.put o (.cells [s'.v] t_84 false 0 false)):=Keep.put _ _ _ rfl;have hso:¬s'.at o:=fun h=>by have:=f5 o h;omega
   refine⟨s',_,rfl,⟨by simp,Nat.lt_of_lt_of_le hlo3 k5.1,w5.keep kp fun k hk e=>hso (e▸hk),hso⟩,?_,.inr fun k hk=>by have:=f5 k hk;omega⟩;exact Keep.trans (S:=fun k=>k=o∨s.at k) ((k12.trans k3).to) (Keep.trans (S:=fun k=>k=o∨s.at k) (k5.mono fun _ _ h=>.inr h) kp fun _ _ e=>.inl e) fun _ _ h=>h
  ·rw[if_neg (by simpa using h3)];refine⟨s,H2,rfl,?_,k12.to,.inl rfl⟩;have:visLine (.nd x ac' pt' l r) b=[]:=by simp only[visLine];rw[if_neg h3]
   rw[this,List.append_nil];exact hg2
theorem AT.line_len:∀(t:AT) (b:Rc),(t.walkP visLine b).length+5≤5*t.panes.length
 | .leaf _ _,_=>by simp[AT.walkP,visLine,AT.panes]
 | .nd x ac pt l r,b=>by
   have h1:=l.line_len (partsP ac pt b).1;have h2:=r.line_len (partsP ac pt b).2;have h3:(visLine (.nd x ac pt l r) b).length≤5:=by
    simp only[visLine];split
    ·simp[Rc.len]
    ·simp
   simp only[AT.walkP,AT.panes,List.length_append];omega
theorem lyLines_s(d rows cols:Nat)(hrc:rows≤100000∧cols≤100000){H:Heap}{tb:Nat}{t:AT}(hb:H.get tb=some (.cells [P0 t.x] t_114 false 0 false))(hl:tb<H.next)(ht:TR H t)(hn:t.panes.length≤100000):∃s H',X (3+(t.ht+(2+d))+1+1) n_27 [P0 tb,.int .i64 (rows:Int),.int .i64 (cols:Int)] H=some (s.v,H')∧Whole H' s (t.walkP visLine (winRc rows cols)) t_87 5∧Keep0 H H'∧∀k,s.at k→H.next≤k:=by
 rw[layout_Tree_Lines_eq];simp only[newK_s];have k1:Keep0 H (H.new (.cells [.slice none 0 0] t_84 false 0 false)):=Keep.new _ _;have g1:(H.new (.cells [.slice none 0 0] t_84 false 0 false)).get H.next=some (.cells [.slice none 0 0] t_84 false 0 false):=by simp
 have n1:(H.new (.cells [.slice none 0 0] t_84 false 0 false)).next=H.next+1:=rfl
 generalize H.new (.cells [.slice none 0 0] t_84 false 0 false)=H1 at*;have tl1:=(ld1_s (off:=0) (k1.get hl hb)).trans (show _=some (P0 t.x)from rfl);rw[tl1];simp only[optK_s,P0,asP_s];obtain⟨H2,e2,k2⟩:=lyAll_s (3+(t.ht+(2+d))) rows cols H1;rw[e2];simp only[callK_s,asA_s];have hdl:=TR.dom_lt ht;have m2:=k2.1;obtain⟨s,H3,e3,q3,k3,n3⟩:=lyWalk_s (lines_vis H.next) t d H2 (winRc rows cols) Sl.nil [] (TR.keep (k1.trans k2) ht fun _ _ h=>h) (winRc_ok hrc) ⟨k2.get (by omega) g1,by omega,.inl ⟨rfl,rfl⟩,Sl.at_nil⟩ (fun h=>by have:=hdl _ h;omega) (fun k h=>absurd h Sl.at_nil) (by
  have:=t.line_len (winRc rows cols);simp;omega)
 rw[show X (3+(t.ht+(2+d))+1) n_40 [.pointer (some ⟨t.x,0,none⟩),.agg ⟨(winRc rows cols).l⟩,.func (.func n_45) #[] #[.pointer (some ⟨H.next,0,none⟩)]] H2=some (.tuple #[],H3)from e3];simp only[callK_s];have tl2:=(ld1_s (off:=0) (k2.get (by omega) (k1.get hl hb))).trans (show _=some (P0 t.x)from rfl);rw[show rdsOk _ _=true from by simp only[rdsOk,Bool.and_true];rw[show 1+1-0=2 from rfl,rdOk_2,rdAt_s rfl (show readD (.load 1 false) [.pointer (some ⟨tb,0,none⟩)] H1=some (.pointer (some ⟨t.x,0,none⟩))from tl1) (same_ptr _),rdAt_s rfl (show readD (.load 1 false) [.pointer (some ⟨tb,0,none⟩)] H2=some (.pointer (some ⟨t.x,0,none⟩))from tl2) (same_ptr _)];rfl];simp only[chk_s];rw[(ld1_s q3.get).trans (show _=some s.v from rfl)];simp only[optK_s,asSL_k];have q3w:=q3.whole;rw[List.nil_append]at q3w;refine⟨s,H3,rfl,q3w,(k1.trans k2).fresh (S:=fun k=>k=H.next∨Sl.nil.at k) k3 fun k e=>?_,fun k hk=>?_⟩
 ·rcases e with e|e
  ·omega
  ·exact absurd e Sl.at_nil
 ·rcases n3 with e|h
  ·subst e;exact absurd hk Sl.at_nil
  ·have:=h k hk;omega
end Go.Proofs.YtjjchnjcmnkpdaaDoor.dec
namespace Go.Proofs.YtjjchnjcmnkpdaaDoor.dec
open Go Go.Cm
def Sz(g g':G):Prop:=g'.c.rows=g.c.rows∧g'.c.cols=g.c.cols
theorem Sz.refl(g:G):Sz g g:=⟨rfl,rfl⟩
theorem Sz.trans{g g' g'':G}(h:Sz g g')(h':Sz g' g''):Sz g g'':=⟨h'.1.trans h.1,h'.2.trans h.2⟩
theorem Sz.of{g g':G}(h:g'.c=g.c):Sz g g':=by unfold Sz;rw[h];exact⟨rfl,rfl⟩
end Go.Proofs.YtjjchnjcmnkpdaaDoor.dec
namespace Go.Proofs.YtjjchnjcmnkpdaaDoor.dec
open Go Go.Cm
attribute [local congr] optK_congr asI_congr asN_congr asB_congr asS_congr asP_congr asA_congr asSL_congr callK_congr castT_congr chk_congr
inductive Tg where
 |z|m|sm|pm|bs
 |s (b:Nat)|wl (b:Nat)|w (b:Nat)|tb (b:Nat)|nd (b:Nat)
 |p (k:Int)|g (k:Int)|q (k:Int)
abbrev Ow:=Nat→Tg
open Classical in
noncomputable def tagS(o:Ow)(S:Nat→Prop)(t:Tg):Ow:=fun j=>if S j then t else o j
theorem tagS_in{o:Ow}{S:Nat→Prop}{t:Tg}{j:Nat}(h:S j):tagS o S t j=t:=by unfold tagS;rw[if_pos h]
theorem tagS_out{o:Ow}{S:Nat→Prop}{t:Tg}{j:Nat}(h:¬S j):tagS o S t j=o j:=by unfold tagS;rw[if_neg h]
structure Pn where
 b:Nat
 A:GA
 q:GP
 qs:Sl
 qu:W
 win:Nat
structure Wn where
 tb:Nat
 t:AT
 act:Int
 zm:Bool
 ses:Nat
structure Sn where
 nm:W
 b:Nat
 wl:Nat
 cap:Nat
 wbs:List Nat
 cur:Nat
structure Md where
 m:Nat
 sm:Nat
 pm:Nat
 rows:Nat
 cols:Nat
 next:Nat
 bs:Sl
 bufs:List W
 ss:List Sn
 W:Nat→Option Wn
 P:Int→Option Pn
structure PnOk(H:Heap)(o:Ow)(k:Int)(x:Pn):Prop where
 get:H.get x.b=some (.cells [P0 x.A.D.p,x.qs.v] t_72 false 0 false)
 lt:x.b<H.next
 ob:o x.b=.p k
 gr:Gr H x.A x.q
 og:∀j,x.A.foot j→o j=.g k
 tq:Tl H x.qs x.qu
 oq:∀j,x.qs.at j→o j=.q k
 ql:x.qu.length≤4096
structure WnOk(H:Heap)(o:Ow)(b:Nat)(x:Wn):Prop where
 get:H.get b=some (.cells [P0 x.tb,.int .i64 x.act,.bool x.zm] t_65 false 0 false)
 lt:b<H.next
 ob:o b=.w b
 gt:H.get x.tb=some (.cells [P0 x.t.x] t_114 false 0 false)
 tl:x.tb<H.next
 ot:o x.tb=.tb b
 tr:TR H x.t
 od:∀j∈x.t.dom,o j=.nd b
 nd:x.t.dom.Nodup
structure SnOk(H:Heap)(o:Ow)(x:Sn):Prop where
 get:H.get x.b=some (.cells [.slice (some ⟨x.wl,0,none⟩) x.wbs.length x.cap,.int .i64 (x.cur:Int)] t_60 false 0 false)
 lt:x.b<H.next
 ob:o x.b=.s x.b
 ws:WS H x.wl x.wbs.length x.cap (x.wbs.map P0)
 ow:o x.wl=.wl x.b
abbrev KT(o:Ow)(T:Tg→Prop)(H H':Heap):Prop:=Keep (fun j=>T (o j)) H H'
def Ex(H:Heap)(o o':Ow):Prop:=∀j,j<H.next→o' j=o j
theorem Ex.refl(H:Heap)(o:Ow):Ex H o o:=fun _ _=>rfl
theorem Ex.trans{H H':Heap}{o o' o'':Ow}(h:Ex H o o')(h':Ex H' o' o'')(hn:H.next≤H'.next):Ex H o o'':=fun j hj=>(h' j (by omega)).trans (h j hj)
theorem owt{o:Ow}{T:Tg→Prop}{b:Nat}{t:Tg}(h:o b=t)(ht:¬T t):¬(fun j=>T (o j)) b:=fun e=>ht (h▸e)
section
variable{H H':Heap}{o o':Ow}{T:Tg→Prop}
theorem PnOk.keep{k:Int}{x:Pn}(h:PnOk H o k x)(hk:KT o T H H')(he:Ex H o o')(t1:¬T (.p k))(t2:¬T (.g k))(t3:¬T (.q k)):PnOk H' o' k x:=⟨(hk.2 _ h.lt (owt (h.ob) t1)).trans h.get,Nat.lt_of_lt_of_le h.lt hk.1,(he _ h.lt).trans h.ob,h.gr.keep hk fun j e=>owt (h.og j e) t2,fun j e=>(he j (h.gr.lt e)).trans (h.og j e),h.tq.keep hk fun j e=>owt (h.oq j e) t3,fun j e=>(he j (h.tq.lt e)).trans (h.oq j e),h.ql⟩
theorem WnOk.keep{b:Nat}{x:Wn}(h:WnOk H o b x)(hk:KT o T H H')(he:Ex H o o')(t1:¬T (.w b))(t2:¬T (.tb b))(t3:¬T (.nd b)):WnOk H' o' b x:=⟨(hk.2 _ h.lt (owt (h.ob) t1)).trans h.get,Nat.lt_of_lt_of_le h.lt hk.1,(he _ h.lt).trans h.ob,(hk.2 _ h.tl (owt (h.ot) t2)).trans h.gt,Nat.lt_of_lt_of_le h.tl hk.1,(he _ h.tl).trans h.ot,TR.keep hk h.tr fun j e=>owt (h.od j e) t3,fun j e=>(he j (TR.dom_lt h.tr j e)).trans (h.od j e),h.nd⟩
theorem SnOk.keep{x:Sn}(h:SnOk H o x)(hk:KT o T H H')(he:Ex H o o')(t1:¬T (.s x.b))(t2:¬T (.wl x.b)):SnOk H' o' x:=⟨(hk.2 _ h.lt (owt (h.ob) t1)).trans h.get,Nat.lt_of_lt_of_le h.lt hk.1,(he _ h.lt).trans h.ob,h.ws.keep hk (owt (h.ow) t2),(he _ h.ws.1).trans h.ow⟩
end
def PMap(es:List (Value×Value×Nat))(P:Int→Option Pn):Prop:=∃ks:List Int,es.map (·.1)=ks.map keyI∧ks.Nodup∧(∀k,k∉ks→P k=none)∧∀(i:Nat) (k:Int) e,ks[i]?=some k→es[i]?=some e→∃x,P k=some x∧e.2.1=P0 x.b
theorem PMap.find{es:List (Value×Value×Nat)}{P:Int→Option Pn}(h:PMap es P)(k:Int):match P k with
  |none=>mapFind (.int .i64) (keyI k) es 0=some none
  |some x=>∃j a,mapFind (.int .i64) (keyI k) es 0=some (some (j,P0 x.b,a)):=by
 obtain⟨ks,h1,h2,h3,h4⟩:=h;rcases find_key (n:=k) h1 with ⟨a,b⟩|⟨j,e,a,b,c⟩
 ·rw[h3 k a];exact b 0
 ·obtain⟨x,e1,e2⟩:=h4 j k e a b;rw[e1];exact⟨j,e.2.2,by rw[c,Nat.zero_add,←e2]⟩
theorem PMap.fnone{es:List (Value×Value×Nat)}{P:Int→Option Pn}(h:PMap es P){k:Int}(hk:P k=none):mapFind (.int .i64) (keyI k) es 0=some none:=by have:=h.find k;rw[hk]at this;exact this
theorem PMap.fsome{es:List (Value×Value×Nat)}{P:Int→Option Pn}(h:PMap es P){k:Int}{x:Pn}(hk:P k=some x):∃j a,mapFind (.int .i64) (keyI k) es 0=some (some (j,P0 x.b,a)):=by have:=h.find k;rw[hk]at this;exact this
def upd{α:Type}(P:Int→Option α)(k:Int)(x:Option α):Int→Option α:=fun j=>if j=k then x else P j
def updN{α:Type}(P:Nat→Option α)(k:Nat)(x:Option α):Nat→Option α:=fun j=>if j=k then x else P j
theorem upd_same{α:Type}(P:Int→Option α)(k:Int)(x:Option α):upd P k x k=x:=by unfold upd;rw[if_pos rfl]
theorem upd_ne{α:Type}(P:Int→Option α){k j:Int}(x:Option α)(h:j≠k):upd P k x j=P j:=by unfold upd;rw[if_neg h]
theorem updN_same{α:Type}(P:Nat→Option α)(k:Nat)(x:Option α):updN P k x k=x:=by unfold updN;rw[if_pos rfl]
theorem updN_ne{α:Type}(P:Nat→Option α){k j:Nat}(x:Option α)(h:j≠k):updN P k x j=P j:=by unfold updN;rw[if_neg h]
theorem PMap.add{es:List (Value×Value×Nat)}{P:Int→Option Pn}(h:PMap es P){k:Int}(hk:P k=none)(x:Pn)(a:Nat):PMap (es++[(keyI k,P0 x.b,a)]) (upd P k (some x)):=by
 obtain⟨ks,h1,h2,h3,h4⟩:=h;have hl:es.length=ks.length:=by have:=congrArg List.length h1;simpa using this
 have hn:k∉ks:=fun hm=>by obtain⟨i,hi⟩:=List.getElem?_of_mem hm;have hi':=(List.getElem?_eq_some_iff.1 hi).1;obtain⟨x,e1,_⟩:=h4 i k es[i] hi (List.getElem?_eq_getElem (by omega));rw[hk]at e1;cases e1
 refine⟨ks++[k],by simp[h1],List.nodup_append.2 ⟨h2,by simp,fun y hy z hz=>by simp only[List.mem_singleton]at hz;rw[hz];exact fun e=>hn (e▸hy)⟩,fun j hj=>?_,fun i j e hi he=>?_⟩
 ·rw[List.mem_append,List.mem_singleton,not_or]at hj;rw[upd_ne _ _ hj.2];exact h3 j hj.1
 ·by_cases hc:i<ks.length
  ·rw[List.getElem?_append_left hc]at hi;rw[List.getElem?_append_left (by omega)]at he;obtain⟨y,e1,e2⟩:=h4 i j e hi he;have hne:j≠k:=fun e=>hn (e▸List.mem_of_getElem? hi);exact⟨y,by rw[upd_ne _ _ hne];exact e1,e2⟩
  ·have hi':=(List.getElem?_eq_some_iff.1 hi).1;rw[List.length_append,List.length_singleton]at hi';have e0:i=ks.length:=by omega
   subst e0;rw[List.getElem?_append_right (Nat.le_refl _),Nat.sub_self]at hi;rw[←hl,List.getElem?_append_right (Nat.le_refl _),Nat.sub_self]at he;simp only[List.getElem?_cons_zero,Option.some.injEq]at hi he;subst hi;subst he;exact⟨x,upd_same _ _ _,rfl⟩
theorem PMap.set{es:List (Value×Value×Nat)}{P:Int→Option Pn}(h:PMap es P){k:Int}{x y:Pn}(hk:P k=some x)(hb:y.b=x.b):PMap es (upd P k (some y)):=by
 obtain⟨ks,h1,h2,h3,h4⟩:=h;have hl:es.length=ks.length:=by have:=congrArg List.length h1;simpa using this
 refine⟨ks,h1,h2,fun j hj=>?_,fun i j e hi he=>?_⟩
 ·have hne:j≠k:=fun e=>by
   have:=h3 j hj;rw[e,hk]at this;cases this
  rw[upd_ne _ _ hne];exact h3 j hj
 ·obtain⟨z,e1,e2⟩:=h4 i j e hi he;by_cases hjk:j=k
  ·subst hjk;rw[hk]at e1;cases e1;exact⟨y,upd_same _ _ _,by rw[hb];exact e2⟩
  ·exact⟨z,by rw[upd_ne _ _ hjk];exact e1,e2⟩
theorem mem_eraseI{ns:List Int}(h:ns.Nodup){j:Nat}{n:Int}(hj:ns[j]?=some n)(x:Int):x∈ns.eraseIdx j↔x∈ns∧x≠n:=by
 rw[List.mem_eraseIdx_iff_getElem?];constructor
 ·rintro⟨i,hi,hx⟩;refine⟨List.mem_of_getElem? hx,fun e=>?_⟩;subst e;obtain⟨a1,a2⟩:=List.getElem?_eq_some_iff.1 hx;obtain⟨b1,b2⟩:=List.getElem?_eq_some_iff.1 hj;exact hi ((List.getElem_inj h).1 (a2.trans b2.symm))
 ·rintro⟨h1,h2⟩;obtain⟨i,hi⟩:=List.getElem?_of_mem h1;refine⟨i,fun e=>?_,hi⟩;subst e;rw[hj]at hi;exact h2 (Option.some.inj hi).symm
theorem PMap.del{H:Heap}{es:List (Value×Value×Nat)}{P:Int→Option Pn}{pm clk:Nat}(h:PMap es P)(hg:H.get pm=some (.map es clk))(k:Int):∃es',(∀K,effK (.mapE (.del (.int .i64))) [.map (some pm),.int .i64 k] H K=K (.tuple #[]) (H.put pm (.map es' clk)))∧PMap es' (upd P k none):=by
 obtain⟨ks,h1,h2,h3,h4⟩:=h;have hl:es.length=ks.length:=by have:=congrArg List.length h1;simpa using this
 rcases find_key (n:=k) h1 with ⟨a,b⟩|⟨j,e,a,b,c⟩
 ·have hf:mapFind (.int .i64) (.int .i64 k) es 0=some none:=b 0;refine⟨es,fun K=>by simp only[effK,mapD,isKey,decide_true,if_true,Heap.ents,hg,hf,optK_s],ks,h1,h2,fun i hi=>?_,fun i n e hi he=>?_⟩
  ·by_cases hik:i=k
   ·subst hik;exact upd_same _ _ _
   ·rw[upd_ne _ _ hik];exact h3 i hi
  ·obtain⟨x,e1,e2⟩:=h4 i n e hi he;have hne:n≠k:=fun e=>a (e▸List.mem_of_getElem? hi);exact⟨x,by rw[upd_ne _ _ hne];exact e1,e2⟩
 ·have hf:mapFind (.int .i64) (.int .i64 k) es 0=some (some (0+j,e.2)):=c 0;refine⟨es.eraseIdx j,fun K=>by simp only[effK,mapD,isKey,decide_true,if_true,Heap.ents,hg,hf,Nat.zero_add,optK_s],ks.eraseIdx j,by rw[map_erase,map_erase,h1],h2.sublist (List.eraseIdx_sublist _ _),fun i hi=>?_,fun i n e hi he=>?_⟩
  ·by_cases hik:i=k
   ·subst hik;exact upd_same _ _ _
   ·rw[upd_ne _ _ hik];refine h3 i fun hm=>hi ((mem_eraseI h2 a i).2 ⟨hm,hik⟩)
  ·have hne:n≠k:=((mem_eraseI h2 a n).1 (List.mem_of_getElem? hi)).2;rw[List.getElem?_eraseIdx]at hi he;split at hi
   ·rename_i hc;rw[if_pos hc]at he;obtain⟨x,e1,e2⟩:=h4 i n e hi he;exact⟨x,by rw[upd_ne _ _ hne];exact e1,e2⟩
   ·rename_i hc;rw[if_neg hc]at he;obtain⟨x,e1,e2⟩:=h4 (i+1) n e hi he;exact⟨x,by rw[upd_ne _ _ hne];exact e1,e2⟩
structure SMap(es:List (Value×Value×Nat))(clk:Nat)(ss:List Sn):Prop where
 k:es.map (·.1)=ss.map fun s=>Value.string (S s.nm)
 v:es.map (·.2.1)=ss.map fun s=>P0 s.b
 nd:(es.map (·.2.2)).Nodup
 lt:∀e∈es,e.2.2<clk
theorem SMap.len{es:List (Value×Value×Nat)}{clk:Nat}{ss:List Sn}(h:SMap es clk ss):es.length=ss.length:=by have:=congrArg List.length h.k;simpa using this
def findS(ss:List Sn)(n:W):Option Sn:=ss.find? fun s=>decide (s.nm=n)
theorem findS_mem{ss:List Sn}{n:W}{s:Sn}(h:findS ss n=some s):s∈ss∧s.nm=n:=⟨List.mem_of_find?_eq_some h,by have:=List.find?_some h;simpa using this⟩
theorem findS_none{ss:List Sn}{n:W}:findS ss n=none↔n∉ss.map (·.nm):=by unfold findS;rw[List.find?_eq_none];simp
theorem findS_some{ss:List Sn}{n:W}{s:Sn}(hn:(ss.map (·.nm)).Nodup)(hs:s∈ss)(he:s.nm=n):findS ss n=some s:=by
 cases hf:findS ss n with
 |none=>exact absurd (List.mem_map.2 ⟨s,hs,he⟩) (findS_none.1 hf)
 |some t=>
  obtain⟨h1,h2⟩:=findS_mem hf;obtain⟨i,hi⟩:=List.getElem?_of_mem hs;obtain⟨j,hj⟩:=List.getElem?_of_mem h1;obtain⟨a1,a2⟩:=List.getElem?_eq_some_iff.1 hi;obtain⟨b1,b2⟩:=List.getElem?_eq_some_iff.1 hj;have e:(ss.map (·.nm))[i]'(by simpa using a1)=(ss.map (·.nm))[j]'(by simpa using b1):=by rw[List.getElem_map,List.getElem_map,a2,b2,he,h2]
  have:=(List.getElem_inj hn).1 e;subst this;rw[hi]at hj;exact congrArg some (Option.some.inj hj).symm
theorem SMap.find{es:List (Value×Value×Nat)}{clk:Nat}{ss:List Sn}(h:SMap es clk ss)(hn:(ss.map (·.nm)).Nodup)(n:W):match findS ss n with
  |none=>mapFind .str (.string (S n)) es 0=some none
  |some s=>∃j e,ss[j]?=some s∧es[j]?=some e∧e.2.1=P0 s.b∧mapFind .str (.string (S n)) es 0=some (some (j,e.2)):=by
 have hk:es.map (·.1)=(ss.map (·.nm)).map fun n=>Value.string (S n):=by rw[h.k,List.map_map];rfl
 rcases find_name (n:=n) hk with ⟨a,b⟩|⟨j,e,a,b,c⟩
 ·rw[findS_none.2 a];exact b 0
 ·rw[List.getElem?_map,Option.map_eq_some_iff]at a;obtain⟨s,a1,a2⟩:=a;rw[findS_some hn (List.mem_of_getElem? a1) a2];refine⟨j,e,a1,b,?_,by rw[c,Nat.zero_add]⟩;have:=congrArg (fun l=>l[j]?) h.v;simp only[List.getElem?_map,b,a1,Option.map_some,Option.some.injEq]at this;exact this
theorem lookS{H:Heap}{sm clk:Nat}{es:List (Value×Value×Nat)}{ss:List Sn}(hg:H.get sm=some (.map es clk))(h:SMap es clk ss)(hn:(ss.map (·.nm)).Nodup)(n:W)(ok:Bool):
  readD (.lookup .str (.pointer none) ok) [.map (some sm),.string (S n)] H=some (match findS ss n with
   |none=>lookV (.pointer none) false ok
   |some s=>lookV (P0 s.b) true ok):=by
 have:=h.find hn n;cases hf:findS ss n with
 |none=>rw[hf]at this;simp only[readD,isKey,if_true,Heap.ents,hg,this]
 |some s=>rw[hf]at this;obtain⟨j,e,_,_,e1,e2⟩:=this;simp only[readD,isKey,if_true,Heap.ents,hg,e2,e1]
theorem lookP{H:Heap}{pm clk:Nat}{es:List (Value×Value×Nat)}{P:Int→Option Pn}(hg:H.get pm=some (.map es clk))(h:PMap es P)(k:Int)(ok:Bool):
  readD (.lookup (.int .i64) (.pointer none) ok) [.map (some pm),.int .i64 k] H=some (match P k with
   |none=>lookV (.pointer none) false ok
   |some x=>lookV (P0 x.b) true ok):=by
 cases hf:P k with
 |none=>have:mapFind (.int .i64) (.int .i64 k) es 0=some none:=h.fnone hf;simp only[readD,isKey,decide_true,if_true,Heap.ents,hg,this]
 |some x=>obtain⟨j,a,e⟩:=h.fsome hf;have e':mapFind (.int .i64) (.int .i64 k) es 0=some (some (j,P0 x.b,a)):=e;simp only[readD,isKey,decide_true,if_true,Heap.ents,hg,e']
structure Wm(M:Md):Prop where
 r:1≤M.rows∧M.rows≤60
 c:1≤M.cols∧M.cols≤90
 nx:∀k x,M.P k=some x→0≤k∧k<M.next
 nn:(M.ss.map (·.nm)).Nodup
 sb:(M.ss.map (·.b)).Nodup
 sl:M.ss.length≤8
 wb:∀s∈M.ss,s.wbs.Nodup∧s.cur<s.wbs.length∧s.wbs.length≤8∧∀b∈s.wbs,∃w,M.W b=some w∧w.ses=s.b
 tp:∀b w,M.W b=some w→w.t.panes.Nodup∧w.t.panes.length≤12∧w.act∈w.t.panes∧(∀p∈w.t.panes,∃x,M.P p=some x∧x.win=b)∧w.t.small
 nl:∀s∈M.ss,s.nm.length≤20
structure MxOk(H:Heap)(o:Ow)(M:Md):Prop where
 gm:H.get M.m=some (.cells [.int .i64 (M.rows:Int),.int .i64 (M.cols:Int),.map (some M.sm),.map (some M.pm),.int .i64 (M.next:Int),M.bs.v] t_50 false 0 false)
 lm:M.m<H.next
 om:o M.m=.m
 gs:∃es c,H.get M.sm=some (.map es c)∧SMap es c M.ss
 ls:M.sm<H.next
 os:o M.sm=.sm
 gp:∃es c,H.get M.pm=some (.map es c)∧PMap es M.P
 lp:M.pm<H.next
 op:o M.pm=.pm
 bf:BL H M.bs M.bufs
 ob:∀k,M.bs.at k→o k=.bs
 hS:∀s∈M.ss,SnOk H o s
 hW:∀b w,M.W b=some w→WnOk H o b w
 hP:∀k x,M.P k=some x→PnOk H o k x
 wm:Wm M
 tab:Tab H
 o5:∀k,k≤3→o k=.z
 oz:∀k,H.next≤k→o k=.z
section
variable{H H':Heap}{o o':Ow}{M:Md}{T:Tg→Prop}
theorem MxOk.kgm(h:MxOk H o M)(hk:KT o T H H')(t:¬T .m):H'.get M.m=some (.cells [.int .i64 (M.rows:Int),.int .i64 (M.cols:Int),.map (some M.sm),.map (some M.pm),.int .i64 (M.next:Int),M.bs.v] t_50 false 0 false):=(hk.2 _ h.lm (owt (h.om) t)).trans h.gm
theorem MxOk.kgs(h:MxOk H o M)(hk:KT o T H H')(t:¬T .sm):∃es c,H'.get M.sm=some (.map es c)∧SMap es c M.ss:=by obtain⟨es,c,h1,h2⟩:=h.gs;exact⟨es,c,(hk.2 _ h.ls (owt (h.os) t)).trans h1,h2⟩
theorem MxOk.kgp(h:MxOk H o M)(hk:KT o T H H')(t:¬T .pm):∃es c,H'.get M.pm=some (.map es c)∧PMap es M.P:=by obtain⟨es,c,h1,h2⟩:=h.gp;exact⟨es,c,(hk.2 _ h.lp (owt (h.op) t)).trans h1,h2⟩
theorem MxOk.kbf(h:MxOk H o M)(hk:KT o T H H')(t:¬T .bs):BL H' M.bs M.bufs:=h.bf.keep hk fun k e=>owt (h.ob k e) t
theorem MxOk.kob(h:MxOk H o M)(he:Ex H o o'):∀k,M.bs.at k→o' k=.bs:=fun k e=>(he k (h.bf.lt e)).trans (h.ob k e)
theorem MxOk.ktab(h:MxOk H o M)(hk:KT o T H H')(t:¬T .z):Tab H':=h.tab.keep hk (owt (h.o5 2 (by omega)) t) (owt (h.o5 3 (by omega)) t)
theorem MxOk.ko5(h:MxOk H o M)(he:Ex H o o'):∀k,k≤3→o' k=.z:=fun k e=>(he k (by have:=h.tab.lt;omega)).trans (h.o5 k e)
theorem MxOk.klm(h:MxOk H o M)(hk:KT o T H H'):M.m<H'.next:=Nat.lt_of_lt_of_le h.lm hk.1
theorem MxOk.kls(h:MxOk H o M)(hk:KT o T H H'):M.sm<H'.next:=Nat.lt_of_lt_of_le h.ls hk.1
theorem MxOk.klp(h:MxOk H o M)(hk:KT o T H H'):M.pm<H'.next:=Nat.lt_of_lt_of_le h.lp hk.1
theorem MxOk.keep(h:MxOk H o M)(hk:KT o T H H')(hT:∀t,T t→t=.z)(h3:∀k,k≤3→H'.get k=H.get k):MxOk H' o M:=by
 have nt:∀{t:Tg},t≠ .z→¬T t:=fun hne ht=>hne (hT _ ht);have he:=Ex.refl H o;refine⟨h.kgm hk (nt (by simp)),h.klm hk,h.om,h.kgs hk (nt (by simp)),h.kls hk,h.os,h.kgp hk (nt (by simp)),h.klp hk,h.op,h.kbf hk (nt (by simp)),h.ob,fun s hs=>(h.hS s hs).keep hk he (nt (by simp)) (nt (by simp)),fun b w hw=>(h.hW b w hw).keep hk he (nt (by simp)) (nt (by simp)) (nt (by simp)),fun k x hx=>(h.hP k x hx).keep hk he (nt (by simp)) (nt (by simp)) (nt (by simp)),h.wm,?_,h.o5,fun k e=>h.oz k (by have:=hk.1;omega)⟩;exact h.tab.keep (S:=fun k=>3<k∧T (o k)) ⟨hk.1,fun k hk' hn=>by
  by_cases h5:k≤3
  ·exact h3 k h5
  ·exact hk.2 k hk' fun ht=>hn ⟨by omega,ht⟩⟩ (fun e=>by omega) fun e=>by omega
theorem MxOk.new(h:MxOk H o M)(hk:Keep0 H H'):MxOk H' o M:=h.keep (T:=fun _=>False) hk (fun _ e=>e.elim) fun k e=>hk.2 k (by have:=h.tab.lt;omega) id
structure St(H:Heap)(o:Ow)(H':Heap)(o':Ow):Prop where
 ex:Ex H o o'
 kp:Keep (fun j=>o j≠ .z) H H'
theorem St.new(h:Keep0 H H'):St H o H' o:=⟨Ex.refl _ _,h.to⟩
theorem St.trans{H'':Heap}{o'':Ow}(h:St H o H' o')(h':St H' o' H'' o''):St H o H'' o'':=⟨h.ex.trans h'.ex h.kp.1,h.kp.trans h'.kp fun k hk e=>by rw[h.ex k hk]at e;exact e⟩
theorem St.of(hk:KT o T H H')(he:Ex H o o')(t:¬T .z):St H o H' o':=⟨he,hk.mono fun k _ e e'=>t (by rw[e']at e;exact e)⟩
end
end Go.Proofs.YtjjchnjcmnkpdaaDoor.dec
namespace Go.Proofs.YtjjchnjcmnkpdaaDoor.dec
open Go Go.Cm
theorem Wm.setP{M:Md}(h:Wm M){k:Int}{x y:Pn}(hx:M.P k=some x)(hw:y.win=x.win):Wm {M with P:=upd M.P k (some y)}:=by
 refine⟨h.r,h.c,fun j z hz=>?_,h.nn,h.sb,h.sl,h.wb,fun b w hb=>?_,h.nl⟩
 ·by_cases e:j=k
  ·subst e;exact h.nx j x hx
  ·exact h.nx j z ((upd_ne _ _ e).symm.trans hz)
 ·obtain⟨t1,t2,t3,t4,t5⟩:=h.tp b w hb;refine⟨t1,t2,t3,fun p hp=>?_,t5⟩;obtain⟨z,z1,z2⟩:=t4 p hp;by_cases e:p=k
  ·subst e;rw[hx]at z1;cases z1;exact⟨y,upd_same _ _ _,hw.trans z2⟩
  ·exact⟨z,(upd_ne _ _ e).trans z1,z2⟩
theorem Wm.setW{M:Md}(h:Wm M){b:Nat}{w w':Wn}(hw:M.W b=some w)(hs:w'.ses=w.ses)(ht:w'.t=w.t)(ha:w'.act∈w.t.panes):Wm {M with W:=updN M.W b (some w')}:=by
 refine⟨h.r,h.c,h.nx,h.nn,h.sb,h.sl,fun s hm=>?_,fun c v hc=>?_,h.nl⟩
 ·obtain⟨a1,a2,a3,a4⟩:=h.wb s hm;refine⟨a1,a2,a3,fun c hc=>?_⟩;obtain⟨v,v1,v2⟩:=a4 c hc;by_cases e:c=b
  ·subst e;rw[hw]at v1;cases v1;exact⟨w',updN_same _ _ _,hs.trans v2⟩
  ·exact⟨v,(updN_ne _ _ e).trans v1,v2⟩
 ·by_cases e:c=b
  ·subst e;have hc':=(updN_same M.W c (some w')).symm.trans hc;cases hc';obtain⟨t1,t2,t3,t4,t5⟩:=h.tp c w hw;rw[ht];exact⟨t1,t2,ha,t4,t5⟩
  ·exact h.tp c v ((updN_ne _ _ e).symm.trans hc)
theorem Wm.bufs{M:Md}(h:Wm M)(bs:Sl)(bufs:List W):Wm {M with bs:=bs,bufs:=bufs}:=⟨h.r,h.c,h.nx,h.nn,h.sb,h.sl,h.wb,h.tp,h.nl⟩
section
variable{H H':Heap}{o:Ow}{M:Md}
theorem MxOk.grid(h:MxOk H o M){k:Int}{x:Pn}(hx:M.P k=some x){A':GA}{q':GP}(r:Gr H' A' q')(s:GStp H x.A H' A'):∃o',MxOk H' o' {M with P:=upd M.P k (some {x with A:=A',q:=q'})}∧St H o H' o':=by
 have px:=h.hP k x hx;have hk:KT o (fun t=>t=.g k) H H':=s.kp.mono fun j _ e=>px.og j e;have he:Ex H o (tagS o (fun j=>H.next≤j∧A'.foot j) (.g k)):=fun j hj=>tagS_out (fun e=>by omega);have nz:¬(fun t=>t=Tg.g k) Tg.z:=by simp
 refine⟨tagS o (fun j=>H.next≤j∧A'.foot j) (.g k),⟨h.kgm hk (by simp),h.klm hk,(he _ h.lm).trans h.om,h.kgs hk (by simp),h.kls hk,(he _ h.ls).trans h.os,?_,h.klp hk,(he _ h.lp).trans h.op,h.kbf hk (by simp),h.kob he,fun s hs=>(h.hS s hs).keep hk he (by simp) (by simp),fun b w hw=>(h.hW b w hw).keep hk he (by simp) (by simp) (by simp),fun j y hy=>?_,h.wm.setP hx rfl,h.ktab hk nz,h.ko5 he,fun j hj=>?_⟩,St.of hk he nz⟩
 ·obtain⟨es,c,h1,h2⟩:=h.kgp hk (by simp);exact⟨es,c,h1,h2.set hx rfl⟩
 ·by_cases e:j=k
  ·subst e;have hy':=(upd_same M.P j (some {x with A:=A',q:=q'})).symm.trans hy;cases hy';refine⟨?_,Nat.lt_of_lt_of_le px.lt hk.1,(he _ px.lt).trans px.ob,r,fun i hi=>?_,px.tq.keep hk fun i hi=>owt (T:=fun t=>t=.g j) (px.oq i hi) (by simp),fun i hi=>(he i (px.tq.lt hi)).trans (px.oq i hi),px.ql⟩
   ·show H'.get x.b=some (.cells [P0 A'.D.p,x.qs.v] t_72 false 0 false);rw[s.p];exact(hk.2 _ px.lt (owt (T:=fun t=>t=.g j) px.ob (by simp))).trans px.get
   ·by_cases hi':H.next≤i
    ·exact tagS_in ⟨hi',hi⟩
    ·rcases s.ft i hi with e|e
     ·exact(he i (by omega)).trans (px.og i e)
     ·omega
  ·have hy':M.P j=some y:=(upd_ne _ _ e).symm.trans hy;exact(h.hP j y hy').keep hk he (by simp) (by simp[e]) (by simp)
 ·have:¬(H.next≤j∧A'.foot j):=fun e=>by have:=r.lt e.2;omega
  rw[tagS_out this];exact h.oz j (by have:=hk.1;omega)
theorem MxOk.win(h:MxOk H o M){b:Nat}{w:Wn}(hw:M.W b=some w){act:Int}{zm:Bool}(ha:act∈w.t.panes):MxOk (H.put b (.cells [P0 w.tb,.int .i64 act,.bool zm] t_65 false 0 false)) o {M with W:=updN M.W b (some {w with act:=act,zm:=zm})}∧St H o (H.put b (.cells [P0 w.tb,.int .i64 act,.bool zm] t_65 false 0 false)) o:=by
 have wx:=h.hW b w hw;have kp:Keep (fun j=>j=b) H (H.put b (.cells [P0 w.tb,.int .i64 act,.bool zm] t_65 false 0 false)):=Keep.put _ _ _ rfl;have gp:(H.put b (.cells [P0 w.tb,.int .i64 act,.bool zm] t_65 false 0 false)).get b=some (.cells [P0 w.tb,.int .i64 act,.bool zm] t_65 false 0 false):=by simp
 have np:(H.put b (.cells [P0 w.tb,.int .i64 act,.bool zm] t_65 false 0 false)).next=H.next:=rfl
 generalize H.put b (.cells [P0 w.tb,.int .i64 act,.bool zm] t_65 false 0 false)=H' at*;have hk:KT o (fun t=>t=.w b) H H':=kp.mono fun j _ e=>by have e':j=b:=e;subst e';exact wx.ob
 have he:=Ex.refl H o;have nz:¬(fun t=>t=Tg.w b) Tg.z:=by simp
 refine⟨⟨h.kgm hk (by simp),h.klm hk,h.om,h.kgs hk (by simp),h.kls hk,h.os,h.kgp hk (by simp),h.klp hk,h.op,h.kbf hk (by simp),h.ob,fun s hs=>(h.hS s hs).keep hk he (by simp) (by simp),fun c v hv=>?_,fun j y hy=>(h.hP j y hy).keep hk he (by simp) (by simp) (by simp),h.wm.setW hw rfl rfl ha,h.ktab hk nz,h.o5,fun j hj=>h.oz j (by omega)⟩,St.of hk he nz⟩;by_cases e:c=b
 ·subst e;have hv':=(updN_same M.W c (some {w with act:=act,zm:=zm})).symm.trans hv;cases hv';exact⟨gp,by rw[np];exact wx.lt,wx.ob,(hk.2 _ wx.tl (owt (T:=fun t=>t=.w c) wx.ot (by simp))).trans wx.gt,by have:=wx.tl;show w.tb<_;omega,wx.ot,TR.keep hk wx.tr fun j e=>owt (T:=fun t=>t=.w c) (wx.od j e) (by simp),wx.od,wx.nd⟩
 ·have hv':M.W c=some v:=(updN_ne _ _ e).symm.trans hv;exact(h.hW c v hv').keep hk he (by simp[e]) (by simp) (by simp)
end
end Go.Proofs.YtjjchnjcmnkpdaaDoor.dec
namespace Go.Proofs.YtjjchnjcmnkpdaaDoor.dec
open Go Go.Cm
attribute [local congr] optK_congr asI_congr asN_congr asB_congr asS_congr asP_congr asA_congr asSL_congr callK_congr castT_congr chk_congr
theorem sign_s(d:Nat)(b:Bool)(H:Heap):∃H',X (d+1) n_28 [.bool b] H=some (.int .i32 (if b=true then 124 else 45),H')∧Keep0 H H':=by
 rw[mux_sign_eq,newK_s];have k1:Keep0 H (H.new (.iter (S [45,124]) 0)):=Keep.new _ _;have g1:(H.new (.iter (S [45,124]) 0)).get H.next=some (.iter (S [45,124]) 0):=by simp
 generalize H.new (.iter (S [45,124]) 0)=H1 at*;obtain⟨f,hf⟩:∃f,NN=f+3:=⟨NN-3,by rw[NN_eq]⟩;rw[hf,j2l_s];have d0:Utf8.decode (S [45,124]) 0=(45,1):=by decide+kernel
 have d1:Utf8.decode (S [45,124]) 1=(124,1):=by decide+kernel
 have hl:slen (S [45,124])=2:=rfl;have k2:Keep0 H (H1.put H.next (.iter (S [45,124]) 1)):=k1.fresh (Keep.put (S:=fun k=>k=H.next) _ _ _ rfl) fun k e=>by have e':k=H.next:=e;omega
 simp only[nextK,g1,hl,d0];rw[if_pos trivial,if_pos (show 0<2 by omega),Nat.zero_add];cases b with
 |false=>rw[if_pos (by decide)];exact⟨_,rfl,k2⟩
 |true=>
  rw[if_neg (by decide),j2l_s];have g2:(H1.put H.next (.iter (S [45,124]) 1)).get H.next=some (.iter (S [45,124]) 1):=by simp
  simp only[nextK,g2,hl,d1];rw[if_pos trivial,if_pos (show 1<2 by omega),if_pos (by decide)];exact⟨_,rfl,k2.fresh (Keep.put (S:=fun k=>k=H.next) _ _ _ rfl) fun k e=>by have e':k=H.next:=e;omega⟩
theorem set_self{α:Type}{l:List α}{i:Nat}{x:α}(h:l[i]?=some x):l.set i x=l:=by
 apply List.ext_getElem?;intro j;rw[List.getElem?_set];split
 ·rename_i e;subst e;rw[if_pos (List.getElem?_eq_some_iff.1 h).1,h]
 ·rfl
theorem Rows.set1{H H':Heap}{q:Q}(h:Rows H q){i:Nat}{x:Nat×List Cl}(hx:q[i]?=some x){L':List Cl}(k:Keep (fun k=>k=x.1) H H')(r:Row H' x.1 L'):Rows H' (q.set i (x.1,L'))∧∀k,bl (q.set i (x.1,L')) k↔bl q k:=by
 have hi:=(List.getElem?_eq_some_iff.1 hx).1;have hxe:=(List.getElem?_eq_some_iff.1 hx).2;have hmf:(q.set i (x.1,L')).map Prod.fst=q.map Prod.fst:=by rw[List.map_set];exact set_self (by simp[hx])
 refine⟨⟨fun z hz=>?_,by rw[hmf];exact h.2⟩,fun k=>?_⟩
 ·obtain⟨j,hj⟩:=List.getElem?_of_mem hz;rw[List.getElem?_set]at hj;split at hj
  ·rename_i e;subst e;cases hj;exact r
  ·rename_i e;have hzm:=List.mem_of_getElem? hj;refine(h.1 z hzm).keep k fun e'=>e ?_;obtain⟨a1,a2⟩:=List.getElem?_eq_some_iff.1 hj;have:(q.map Prod.fst)[i]'(by simpa using hi)=(q.map Prod.fst)[j]'(by simpa using a1):=by rw[List.getElem_map,List.getElem_map,hxe,a2];exact e'.symm
   exact(List.getElem_inj h.2).1 this
 ·have hb:∀q:Q,bl q k↔k∈q.map Prod.fst:=fun q=>by
   unfold bl;simp only[List.mem_map]
  rw[hb,hb,hmf]
structure Cv(H:Heap)(y:Sl)(q:Q)(R C:Nat):Prop where
 o:Outer H y q
 r:Rows H q
 n:q.length=R
 w:∀x∈q,x.2.length=C
 ya:∀k,y.at k→¬bl q k
theorem Cv.keep{S:Nat→Prop}{H H':Heap}{y:Sl}{q:Q}{R C:Nat}(h:Cv H y q R C)(hk:Keep S H H')(h1:∀k,y.at k→¬S k)(h2:∀k,bl q k→¬S k):Cv H' y q R C:=⟨Whole.keep h.o hk h1,h.r.keep hk h2,h.n,h.w,h.ya⟩
theorem Cv.set{H H':Heap}{y:Sl}{q:Q}{R C:Nat}(h:Cv H y q R C){i:Nat}{x:Nat×List Cl}(hx:q[i]?=some x){L':List Cl}(k:Keep (fun k=>k=x.1) H H')(r:Row H' x.1 L')(hl:L'.length=C):Cv H' y (q.set i (x.1,L')) R C∧(∀k,bl (q.set i (x.1,L')) k↔bl q k):=by
 obtain⟨r',hb⟩:=h.r.set1 hx k r;have hi:=(List.getElem?_eq_some_iff.1 hx).1;have hxl:=h.w x (List.mem_of_getElem? hx);have hm:(q.set i (x.1,L')).map rowV=q.map rowV:=by rw[List.map_set];refine set_self ?_;rw[List.getElem?_map,hx];simp only[Option.map_some,rowV,hl,hxl]
 refine⟨⟨?_,r',by rw[List.length_set];exact h.n,fun z hz=>?_,fun k e e'=>h.ya k e ((hb k).1 e')⟩,hb⟩
 ·unfold Outer;rw[hm];exact Whole.keep h.o k fun k e e'=>h.ya k e (by have e'':k=x.1:=e';exact⟨x,List.mem_of_getElem? hx,e''.symm⟩)
 ·rcases List.mem_or_eq_of_mem_set hz with e|e
  ·exact h.w z e
  ·rw[e];exact hl
theorem Cv.row{H:Heap}{y:Sl}{q:Q}{R C:Nat}(h:Cv H y q R C){i:Nat}(hi:i<R):∃(a:Addr) (x:Nat×List Cl),y.a=some a∧y.n=R∧q[i]?=some x∧Heap.ld1 H (ap a (i*1))=some (wsl x.1 C).v∧Row H x.1 x.2∧x.2.length=C:=by
 have hiq:i<q.length:=by rw[h.n];exact hi
 have hx:q[i]?=some q[i]:=List.getElem?_eq_getElem hiq;have hm:q[i]∈q:=List.getElem_mem hiq;generalize q[i]=x at hx hm;obtain⟨b,v,_⟩:=h.o.ov (h.o.some (by intro e;rw[e]at hx;cases hx));obtain⟨a,e1,e2⟩:=v.ld hx;refine⟨a,x,e1,by rw[h.o.n,h.n],hx,?_,h.r.1 x hm,h.w x hm⟩;rw[e2,rowV,h.w x hm]
def putAt(l new:List Cl)(c:Nat):List Cl:=l.take c++(new++(l.drop c).drop new.length)
theorem putAt_len(l new:List Cl)(c:Nat)(h:c+new.length≤l.length):(putAt l new c).length=l.length:=by unfold putAt;simp;omega
def paintN(C:Nat)(r:Rc)(SC:Nat):Nat:=(min (min r.cols SC) (C-r.col)).toNat
def paintRow(R C:Nat)(r:Rc)(SC:Nat)(SL V:List (List Cl))(i:Nat):List (List Cl):=if r.row+i<R∧r.col<C then V.modify (r.row.toNat+i) fun l=>putAt l ((SL.getD i []).take (paintN C r SC)) r.col.toNat else V
def paintP(R C:Nat)(r:Rc)(SR SC:Nat)(SL V:List (List Cl)):List (List Cl):=(List.range (min r.rows SR).toNat).foldl (paintRow R C r SC SL) V
theorem map_set_snd(q:Q){i:Nat}{x:Nat×List Cl}(hx:q[i]?=some x)(f:List Cl→List Cl):(q.set i (x.1,f x.2)).map Prod.snd=(q.map Prod.snd).modify i f:=by
 have:(q.map Prod.snd)[i]?=some x.2:=by rw[List.getElem?_map,hx];rfl
 rw[modify_at this,List.map_set]
theorem paint_loop(d:Nat){R C:Nat}(hR:R≤1000)(hC:C≤1000){y:Sl}{q0:Q}{c:Sc}{ys:Sl}{ps:Q}{SL:List (List Cl)}{r:Rc}(hr:r.ok){a1 a2 a3:Value}{bV bS bR N:Nat}{H0:Heap}(hN:∀k,bl q0 k→k<N)(hV:N≤bV∧bV<H0.next)(hS:N≤bS∧bS<H0.next)(hRb:N≤bR∧bR<H0.next)(gV:H0.get bV=some (.cells [.int .i64 (R:Int),.int .i64 (C:Int),y.v,a1,a2,a3] t_38 false 0 false))(gS:H0.get bS=some (.cells (scrL c ys) t_38 false 0 false))(gR:H0.get bR=some (.cells r.l t_83 false 0 false))(os:Outer H0 ys ps)(rs':Rows H0 ps)(ms:ps.map Prod.snd=SL)(nsl:SL.length=c.rows)(nsw:∀l∈SL,l.length=c.cols)(cr:c.rows≤1000)(cc:c.cols≤1000)(f1:∀k,ys.at k→¬bl q0 k)(f2:∀k,bl ps k→¬bl q0 k):
  ∀(m j:Nat) (H:Heap) (q:Q),(min r.rows c.rows).toNat-j<m→j≤(min r.rows c.rows).toNat→Cv H y q R C→(∀k,bl q k↔bl q0 k)→Keep (bl q0) H0 H→∃H' q',j2i d m (P0 bV) (P0 bS) (P0 bR) (((min r.rows c.rows).toNat:Nat):Int) (j:Int) H=some (.tuple #[],H')∧Cv H' y q' R C∧(∀k,bl q' k↔bl q0 k)∧Keep (bl q0) H0 H'∧q'.map Prod.snd=((List.range' j ((min r.rows c.rows).toNat-j))).foldl (paintRow R C r c.cols SL) (q.map Prod.snd):=by
 intro m;obtain⟨o1,o2,o3,o4,o5,o6⟩:=hr;induction m with
 |zero=>intro j H q hm;omega
 |succ m ih=>
  intro j H q hm hj cv hb kp;rw[j2i_s];have gV':=(kp.2 bV hV.2 fun e=>by have:=hN _ e;omega).trans gV;have gS':=(kp.2 bS hS.2 fun e=>by have:=hN _ e;omega).trans gS;have gR':=(kp.2 bR hRb.2 fun e=>by have:=hN _ e;omega).trans gR;by_cases hlt:j<(min r.rows c.rows).toNat
  ·rw[if_pos (show decide ((j:Int)<(((min r.rows c.rows).toNat:Nat):Int))=true from decide_eq_true (by omega))];simp only[P0,asP_s,optK_s];rw[show ap ⟨bR,0,none⟩ 0=⟨bR,0,none⟩from rfl,(ld1_s gR').trans (show _=some (Value.int .i64 r.row)from rfl)];simp only[optK_s,asI_s];rw[show ap ⟨bV,0,none⟩ 0=⟨bV,0,none⟩from rfl,(ld1_s gV').trans (show _=some (Value.int .i64 (R:Int))from rfl)];simp only[optK_s,asI_s];have w1:IntKind.wrap .i64 (r.row+(j:Int))=r.row+(j:Int):=by rw[w64 (by omega)]
   rw[w1];have hrng:List.range' j ((min r.rows c.rows).toNat-j)=j::List.range' (j+1) ((min r.rows c.rows).toNat-(j+1)):=by rw[show(min r.rows c.rows).toNat-j=((min r.rows c.rows).toNat-(j+1))+1 by omega,List.range'_succ]
   rw[hrng,List.foldl_cons];have go:∀(H2:Heap) (q2:Q),Cv H2 y q2 R C→(∀k,bl q2 k↔bl q0 k)→Keep (bl q0) H0 H2→q2.map Prod.snd=paintRow R C r c.cols SL (q.map Prod.snd) j→∃H' q',j2k d m (.pointer (some ⟨bV,0,none⟩)) (.pointer (some ⟨bS,0,none⟩)) (.pointer (some ⟨bR,0,none⟩)) (((min r.rows c.rows).toNat:Nat):Int) (j:Int) H2=some (.tuple #[],H')∧Cv H' y q' R C∧(∀k,bl q' k↔bl q0 k)∧Keep (bl q0) H0 H'∧q'.map Prod.snd=((List.range' (j+1) ((min r.rows c.rows).toNat-(j+1)))).foldl (paintRow R C r c.cols SL) (paintRow R C r c.cols SL (q.map Prod.snd) j):=fun H2 q2 cv2 hb2 kp2 e2=>by
    rw[j2k_eq,wi (by omega),←e2];exact ih (j+1) H2 q2 (by omega) (by omega) cv2 hb2 kp2
   by_cases hrow:r.row+(j:Int)<R
   ·rw[if_pos (show decide (r.row+(j:Int)<(R:Int))=true from decide_eq_true hrow)];rw[show ap ⟨bR,0,none⟩ 1=⟨bR,1,none⟩from rfl,(ld1_s gR').trans (show _=some (Value.int .i64 r.col)from rfl)];simp only[optK_s,asI_s];rw[show ap ⟨bV,0,none⟩ 1=⟨bV,1,none⟩from rfl,(ld1_s gV').trans (show _=some (Value.int .i64 (C:Int))from rfl)];simp only[optK_s,asI_s];rw[j2j_eq];by_cases hcol:r.col<C
    ·rw[if_pos (show decide (r.col<(C:Int))=true from decide_eq_true hcol)];simp only[asP_s,optK_s];rw[show ap ⟨bR,0,none⟩ 3=⟨bR,3,none⟩from rfl,(ld1_s gR').trans (show _=some (Value.int .i64 r.cols)from rfl)];simp only[optK_s,asI_s];rw[show ap ⟨bS,0,none⟩ 1=⟨bS,1,none⟩from rfl,(ld1_s gS').trans (show _=some (Value.int .i64 (c.cols:Int))from rfl)];simp only[optK_s,asI_s];rw[show ap ⟨bV,0,none⟩ 1=⟨bV,1,none⟩from rfl,(ld1_s gV').trans (show _=some (Value.int .i64 (C:Int))from rfl)];simp only[optK_s,asI_s];rw[show ap ⟨bR,0,none⟩ 1=⟨bR,1,none⟩from rfl,(ld1_s gR').trans (show _=some (Value.int .i64 r.col)from rfl)];simp only[optK_s,asI_s];rw[show ap ⟨bV,0,none⟩ 2=⟨bV,2,none⟩from rfl,(ld1_s gV').trans (show _=some y.v from rfl)];simp only[optK_s,asSL_k];rw[show ap ⟨bR,0,none⟩ 0=⟨bR,0,none⟩from rfl,(ld1_s gR').trans (show _=some (Value.int .i64 r.row)from rfl)];simp only[optK_s,asI_s];rw[w1];obtain⟨a,x,ea,en,hx,hld,hrw,hxl⟩:=cv.row (i:=r.row.toNat+j) (by omega);rw[ea];simp only[optK_s];rw[if_pos (show 0≤r.row+(j:Int)∧r.row+(j:Int)<(y.n:Int)by rw[en];omega),show(r.row+(j:Int)).toNat=r.row.toNat+j by omega,hld];simp only[optK_s,asSL_k];have v:=hrw.cv;rw[hxl]at v;have hcv:=v.s_l (l:=r.col.toNat) (i:=.i64) (by rw[hxl];omega);rw[show((r.col.toNat:Nat):Int)=r.col by omega,hxl]at hcv;rw[hcv];simp only[optK_s,asSL_k];rw[show ap ⟨bS,0,none⟩ 2=⟨bS,2,none⟩from rfl,(ld1_s gS').trans (show _=some ys.v from rfl)];simp only[optK_s,asSL_k];have jlt:j<SL.length:=by rw[nsl];omega
     have hps:ps.length=SL.length:=by rw[←ms,List.length_map]
     have hz:ps[j]?=some (ps[j]'(by omega)):=List.getElem?_eq_getElem (by omega);have hzm:ps[j]'(by omega)∈ps:=List.getElem_mem _;generalize ps[j]'(by omega)=z at hz hzm;have hSLj:SL[j]?=some z.2:=by rw[←ms,List.getElem?_map,hz];rfl
     have hzl:z.2.length=c.cols:=nsw _ (List.mem_of_getElem? hSLj);have os':Outer H ys ps:=Whole.keep os kp f1;have rs2:=rs'.keep kp f2;obtain⟨bb,ov,_⟩:=os'.ov (os'.some (by intro e;rw[e]at hz;cases hz));obtain⟨a2',e1,e2⟩:=ov.ld hz;rw[e1];simp only[optK_s];have hysn:ys.n=SL.length:=by rw[os'.n,hps]
     rw[if_pos (show 0≤(j:Int)∧(j:Int)<(ys.n:Int)by rw[hysn];omega),Int.toNat_natCast,e2];simp only[optK_s,rowV,asSL_k];have w2:IntKind.wrap .i64 ((C:Int)-r.col)=(C:Int)-r.col:=by rw[w64 (by omega)]
     rw[w2];have hn:(if(if(C:Int)-r.col<(if(c.cols:Int)<r.cols then(c.cols:Int)else r.cols)then(C:Int)-r.col else(if(c.cols:Int)<r.cols then(c.cols:Int)else r.cols))<0 then 0 else(if(C:Int)-r.col<(if(c.cols:Int)<r.cols then(c.cols:Int)else r.cols)then(C:Int)-r.col else(if(c.cols:Int)<r.cols then(c.cols:Int)else r.cols)))=((paintN C r c.cols:Nat):Int):=by unfold paintN;split<;>split<;>(try split)<;>omega
     rw[hn];have hpn:paintN C r c.cols≤c.cols∧paintN C r c.cols≤C-r.col.toNat:=by unfold paintN;omega
     have zr:=(rs2.1 z hzm).cv;rw[zr.s_h (k:=paintN C r c.cols) (by rw[hzl];exact hpn.1)];simp only[optK_s,asSL_k];have zv:=zr.sub (l:=0) (k:=paintN C r c.cols) (by omega) (by rw[hzl];exact hpn.1);have xv:=v.sub (l:=r.col.toNat) (k:=C) (by omega) (by omega);have hlen:((x.2.drop r.col.toNat).take (C-r.col.toNat)).length=C-r.col.toNat:=by simp;omega
     have hdrop:(x.2.drop r.col.toNat).take (C-r.col.toNat)=x.2.drop r.col.toNat:=List.take_of_length_le (by simp;omega);rw[hdrop]at xv hlen;have hzt:((z.2.drop 0).take (paintN C r c.cols-0))=z.2.take (paintN C r c.cols):=by simp
     rw[hzt]at zv;have hnl:(z.2.take (paintN C r c.cols)).length=paintN C r c.cols:=by simp;omega
     obtain⟨H2,e4,v4,k4,n4⟩:=xv.copy (x:=subS (wsl z.1 z.2.length) 0 (paintN C r c.cols) 4) (new:=z.2.take (paintN C r c.cols)) (by
      rw[hlen];show srcCells H 4 (min (paintN C r c.cols-0) (C-r.col.toNat)) _=_;rw[Nat.sub_zero,Nat.min_eq_left hpn.2,zv.src (by rw[hnl];omega),List.take_of_length_le (by rw[hnl];omega)]) (by
      rw[hlen,hnl];show _=min (paintN C r c.cols-0) (C-r.col.toNat);omega)
     rw[e4];simp only[asI_s];have hrow4:=v4.row;have hL:[]++x.2.take r.col.toNat++(z.2.take (paintN C r c.cols)++(x.2.drop r.col.toNat).drop (z.2.take (paintN C r c.cols)).length++(x.2.drop C++[]))=putAt x.2 (z.2.take (paintN C r c.cols)) r.col.toNat:=by rw[show x.2.drop C=[]from List.drop_eq_nil_of_le (by omega)];simp[putAt]
     rw[hL]at hrow4;obtain⟨cv4,hb4⟩:=cv.set hx k4 hrow4 (by rw[putAt_len _ _ _ (by rw[hnl];omega)];exact hxl);refine go H2 _ cv4 (fun k=>(hb4 k).trans (hb k)) (kp.trans k4 fun k _ e=>?_) ?_
     ·have e':k=x.1:=e;exact(hb k).1 ⟨x,List.mem_of_getElem? hx,e'.symm⟩
     ·unfold paintRow;rw[if_pos ⟨hrow,hcol⟩,List.getD_eq_getElem?_getD,hSLj];exact map_set_snd q hx fun l=>putAt l (z.2.take (paintN C r c.cols)) r.col.toNat
    ·rw[if_neg (show¬decide (r.col<(C:Int))=true by simpa using hcol)];exact go H q cv hb kp (by unfold paintRow;rw[if_neg (fun e=>hcol e.2)])
   ·rw[if_neg (show¬decide (r.row+(j:Int)<(R:Int))=true by simpa using hrow),j2j_eq,if_neg (by simp)];exact go H q cv hb kp (by unfold paintRow;rw[if_neg (fun e=>hrow e.1)])
  ·rw[if_neg (show¬decide ((j:Int)<(((min r.rows c.rows).toNat:Nat):Int))=true by rw[decide_eq_true_eq];omega)];refine⟨H,q,rfl,cv,hb,kp,?_⟩;rw[show(min r.rows c.rows).toNat-j=0 by omega];rfl
theorem paint_s(d:Nat){H:Heap}{R C:Nat}(hR:R≤1000)(hC:C≤1000){y:Sl}{q:Q}(cv:Cv H y q R C){r:Rc}(hr:r.ok){vr vc:Int}{vh:Bool}{c:Sc}{ys:Sl}{ps:Q}{SL:List (List Cl)}(os:Outer H ys ps)(rs':Rows H ps)(ms:ps.map Prod.snd=SL)(nsl:SL.length=c.rows)(nsw:∀l∈SL,l.length=c.cols)(cr:c.rows≤1000)(cc:c.cols≤1000)(f1:∀k,ys.at k→¬bl q k)(f2:∀k,bl ps k→¬bl q k):∃H' q',X (d+1) n_26 [.agg ⟨[.int .i64 (R:Int),.int .i64 (C:Int),y.v,.int .i64 vr,.int .i64 vc,.bool vh]⟩,.agg ⟨scrL c ys⟩,.agg ⟨r.l⟩] H=some (.tuple #[],H')∧Cv H' y q' R C∧(∀k,bl q' k↔bl q k)∧Keep (bl q) H H'∧q'.map Prod.snd=paintP R C r c.rows c.cols SL (q.map Prod.snd):=by
 rw[mux_paint_eq,ly_box rfl];have k1:Keep0 H (H.new (.cells [.int .i64 (R:Int),.int .i64 (C:Int),y.v,.int .i64 vr,.int .i64 vc,.bool vh] t_38 false 0 false)):=Keep.new _ _;have g1:(H.new (.cells [.int .i64 (R:Int),.int .i64 (C:Int),y.v,.int .i64 vr,.int .i64 vc,.bool vh] t_38 false 0 false)).get H.next=some (.cells [.int .i64 (R:Int),.int .i64 (C:Int),y.v,.int .i64 vr,.int .i64 vc,.bool vh] t_38 false 0 false):=by simp
 have n1:(H.new (.cells [.int .i64 (R:Int),.int .i64 (C:Int),y.v,.int .i64 vr,.int .i64 vc,.bool vh] t_38 false 0 false)).next=H.next+1:=rfl
 generalize H.new (.cells [.int .i64 (R:Int),.int .i64 (C:Int),y.v,.int .i64 vr,.int .i64 vc,.bool vh] t_38 false 0 false)=H1 at*;rw[ly_box rfl];have k2:Keep0 H1 (H1.new (.cells (scrL c ys) t_38 false 0 false)):=Keep.new _ _;have g2:(H1.new (.cells (scrL c ys) t_38 false 0 false)).get H1.next=some (.cells (scrL c ys) t_38 false 0 false):=by simp
 have n2:(H1.new (.cells (scrL c ys) t_38 false 0 false)).next=H1.next+1:=rfl
 generalize H1.new (.cells (scrL c ys) t_38 false 0 false)=H2 at*;rw[ly_box r.one];have k3:Keep0 H2 (H2.new (.cells r.l t_83 false 0 false)):=Keep.new _ _;have g3:(H2.new (.cells r.l t_83 false 0 false)).get H2.next=some (.cells r.l t_83 false 0 false):=by simp
 have n3:(H2.new (.cells r.l t_83 false 0 false)).next=H2.next+1:=rfl
 generalize H2.new (.cells r.l t_83 false 0 false)=H3 at*;have k03:=(k1.trans k2).trans k3;have gV:=k3.get (by omega) (k2.get (by omega) g1);have gS:=k3.get (by omega) g2;simp only[P0,asP_s,optK_s];rw[show ap ⟨H2.next,0,none⟩ 2=⟨H2.next,2,none⟩from rfl,(ld1_s g3).trans (show _=some (Value.int .i64 r.rows)from rfl)];simp only[optK_s,asI_s];rw[show ap ⟨H1.next,0,none⟩ 0=⟨H1.next,0,none⟩from rfl,(ld1_s gS).trans (show _=some (Value.int .i64 (c.rows:Int))from rfl)];simp only[optK_s,asI_s];have ho:=hr;obtain⟨o1,o2,o3,o4,o5,o6⟩:=ho;have hn:(if(c.rows:Int)<r.rows then(c.rows:Int)else r.rows)=(((min r.rows c.rows).toNat:Nat):Int):=by split<;>omega
 rw[hn];obtain⟨H',q',e,cv',hb,kp,hm⟩:=paint_loop d hR hC hr (q0:=q) (bV:=H.next) (bS:=H1.next) (bR:=H2.next) (N:=H.next) (H0:=H3) (fun k e=>cv.r.lt e) ⟨Nat.le_refl _,by omega⟩ ⟨by omega,by omega⟩ ⟨by omega,by omega⟩ gV gS g3 (Whole.keep os k03 fun _ _ e=>e) (rs'.keep k03 fun _ _ e=>e) ms nsl nsw cr cc f1 f2 NN 0 H3 q (by rw[NN_eq];omega) (by omega) (cv.keep k03 (fun _ _ e=>e) fun _ _ e=>e) (fun _=>Iff.rfl) (Keep.refl _);refine⟨H',q',e,cv',hb,(k03.to (S:=bl q)).trans kp fun _ _ e=>e,?_⟩;rw[hm,Nat.sub_zero];unfold paintP;rw[List.range_eq_range']
def Rc.inn(r w:Rc):Prop:=w.row≤r.row∧w.col≤r.col∧r.row+r.rows≤w.row+w.rows∧r.col+r.cols≤w.col+w.cols
theorem Rc.inn_refl(r:Rc):r.inn r:=⟨Int.le_refl _,Int.le_refl _,Int.le_refl _,Int.le_refl _⟩
theorem Rc.inn.trans{a b c:Rc}(h:a.inn b)(h':b.inn c):a.inn c:=by obtain⟨h1,h2,h3,h4⟩:=h;obtain⟨g1,g2,g3,g4⟩:=h';exact⟨by omega,by omega,by omega,by omega⟩
theorem sliceP_inn{ac:Bool}{r:Rc}{f m:Int}(hf:0≤f)(hw:f+m≤wideP ac r):(sliceP ac r f m).inn r:=by
 unfold sliceP wideP at*;unfold Rc.inn;cases ac
 ·rw[if_neg (by decide)]at*;exact⟨by show r.row≤r.row+f;omega,Int.le_refl _,by show r.row+f+m≤r.row+r.rows;omega,Int.le_refl _⟩
 ·rw[if_pos rfl]at*;exact⟨Int.le_refl _,by show r.col≤r.col+f;omega,Int.le_refl _,by show r.col+f+m≤r.col+r.cols;omega⟩
theorem partsP_inn{ac:Bool}{pt:Int}{r:Rc}(h:r.ok):(partsP ac pt r).1.inn r∧(partsP ac pt r).2.inn r:=by
 obtain⟨w1,w2⟩:=wideP_ok (ac:=ac) h;unfold partsP;by_cases hw:wideP ac r<3
 ·rw[if_pos hw];exact⟨Rc.inn_refl _,sliceP_inn w1 (by omega)⟩
 ·obtain⟨v1,v2⟩:=heldP_ok (pt:=pt) (d:=wideP ac r) (by omega);rw[if_neg hw];exact⟨sliceP_inn (by omega) (by omega),sliceP_inn (by omega) (by omega)⟩
theorem AT.places_ok:∀(t:AT) {b:Rc},b.ok→∀x∈t.places b,x.ok∧x.inn b
 | .leaf _ _,b,h,x,hx=>by simp only[AT.places,List.mem_singleton]at hx;subst hx;exact⟨h,Rc.inn_refl _⟩
 | .nd _ ac pt l r,b,h,x,hx=>by
   simp only[AT.places,List.mem_append]at hx;obtain⟨o1,o2⟩:=partsP_ok (ac:=ac) (pt:=pt) h;obtain⟨i1,i2⟩:=partsP_inn (ac:=ac) (pt:=pt) h;rcases hx with hx|hx
   ·obtain⟨a,b⟩:=l.places_ok o1 x hx;exact⟨a,b.trans i1⟩
   ·obtain⟨a,b⟩:=r.places_ok o2 x hx;exact⟨a,b.trans i2⟩
def AT.lines:AT→Rc→List (Rc×Bool)
 | .leaf _ _,_=>[]
 | .nd _ ac pt l r,b=>(if 3≤wideP ac b then [(sliceP ac b (heldP pt (wideP ac b)) 1,ac)]else [])++(l.lines (partsP ac pt b).1++r.lines (partsP ac pt b).2)
def bdV(x:Rc×Bool):List Value:=x.1.l++[.bool x.2]
theorem bdV_len(x:Rc×Bool):(bdV x).length=5:=rfl
theorem AT.walk_lines:∀(t:AT) (b:Rc),t.walkP visLine b=(t.lines b).flatMap bdV
 | .leaf _ _,_=>rfl
 | .nd x ac pt l r,b=>by
   rw[show(AT.nd x ac pt l r).walkP visLine b=visLine (.nd x ac pt l r) b++(l.walkP visLine (partsP ac pt b).1++r.walkP visLine (partsP ac pt b).2)from rfl,l.walk_lines,r.walk_lines];simp only[AT.lines,List.flatMap_append,visLine]
   congr 1
   split<;>simp[bdV]
theorem AT.lines_ok:∀(t:AT) {b:Rc},b.ok→∀x∈t.lines b,x.1.ok∧x.1.inn b
 | .leaf _ _,b,h,x,hx=>by simp[AT.lines]at hx
 | .nd _ ac pt l r,b,h,x,hx=>by
   simp only[AT.lines,List.mem_append]at hx;obtain⟨o1,o2⟩:=partsP_ok (ac:=ac) (pt:=pt) h;obtain⟨i1,i2⟩:=partsP_inn (ac:=ac) (pt:=pt) h;rcases hx with hx|hx|hx
   ·split at hx
    ·rename_i h3;simp only[List.mem_singleton]at hx;subst hx;obtain⟨v1,v2⟩:=heldP_ok (pt:=pt) h3;exact⟨sliceP_ok h (by omega) (by omega) (by omega),sliceP_inn (by omega) (by omega)⟩
    ·simp at hx
   ·obtain⟨a,b⟩:=l.lines_ok o1 x hx;exact⟨a,b.trans i1⟩
   ·obtain⟨a,b⟩:=r.lines_ok o2 x hx;exact⟨a,b.trans i2⟩
theorem AT.lines_len(t:AT)(b:Rc):(t.lines b).length+1≤t.panes.length:=by have:=t.line_len b;rw[t.walk_lines,fm_len bdV 5 bdV_len]at this;omega
def signC(ac:Bool):Cl:=⟨if ac=true then 124 else 45,0,0,0⟩
def lineCell(b:Rc)(ac:Bool)(i:Nat)(V:List (List Cl))(j:Nat):List (List Cl):=V.modify (b.row.toNat+i) fun l=>l.set (b.col.toNat+j) (signC ac)
def lineRow(b:Rc)(ac:Bool)(V:List (List Cl))(i:Nat):List (List Cl):=(List.range b.cols.toNat).foldl (lineCell b ac i) V
def lineP(V:List (List Cl))(x:Rc×Bool):List (List Cl):=(List.range x.1.rows.toNat).foldl (lineRow x.1 x.2) V
structure Vd(H:Heap)(p42:Nat)(y:Sl)(q:Q)(R C:Nat)(vr vc:Int)(vh:Bool):Prop where
 cv:Cv H y q R C
 g4:H.get p42=some (.cells [.int .i64 (R:Int),.int .i64 (C:Int),y.v,.int .i64 vr,.int .i64 vc,.bool vh] t_38 false 0 false)
 lt:p42<H.next
 n4:¬bl q p42
 ny:¬y.at p42
theorem Vd.keep{S:Nat→Prop}{H H':Heap}{p42:Nat}{y:Sl}{q:Q}{R C:Nat}{vr vc:Int}{vh:Bool}(h:Vd H p42 y q R C vr vc vh)(hk:Keep S H H')(h1:∀k,y.at k→¬S k)(h2:∀k,bl q k→¬S k)(h3:¬S p42):Vd H' p42 y q R C vr vc vh:=⟨h.cv.keep hk h1 h2,(hk.2 _ h.lt h3).trans h.g4,Nat.lt_of_lt_of_le h.lt hk.1,h.n4,h.ny⟩
theorem stN4{H:Heap}{b:Nat}{L:List Cl}(h:Row H b L){i:Nat}(hi:i<L.length)(c:Cl):∃H',Heap.stN H ⟨b,i*4,none⟩ (cellV c)=some H'∧Row H' b (L.set i c)∧Keep (fun k=>k=b) H H'∧H'.next=H.next:=by have v:=h.vw;obtain⟨H',e1,e2,e3,e4⟩:=v.stN (new:=cellV c) (i:=i*4) (by rw[flat_ln,cellV_len];omega);rw[List.length_nil,Nat.zero_add]at e1;refine⟨H',e1,?_,e3,e4⟩;rw[flat_set c hi]at e2;have:Row H' b (L.set i c):=Row.of (by rw[show wsl b L.length=wsl b (L.set i c).length by rw[List.length_set]]at e2;exact e2) rfl rfl;exact this
theorem line_cells(d m0 m1:Nat){R C:Nat}(hR:R≤1000)(hC:C≤1000){x4 p42 p:Nat}{y:Sl}{vr vc:Int}{vh:Bool}{b:Rc}{ac:Bool}(hb:b.ok)(hi1:b.row+b.rows≤R)(hi2:b.col+b.cols≤C){i:Nat}(hi:(i:Int)<b.rows){x164:Sl}{x165 x166:Int}{q0:Q}{H0:Heap}(hp:H0.get p=some (.cells (bdV (b,ac)) t_87 false 0 false))(hpl:p<H0.next)(hpq:¬bl q0 p):
  ∀(m2 j:Nat) (H:Heap) (q:Q),b.cols.toNat-j<m2→j≤b.cols.toNat→Vd H p42 y q R C vr vc vh→(∀k,bl q k↔bl q0 k)→Keep (bl q0) H0 H→∃H' q',j2d (d+1) m0 m1 m2 x4 p42 p (i:Int) x164 x165 x166 b.rows (i:Int) b.cols (j:Int) H=j18 (d+1) m0 m1 x4 p42 p x164 x165 x166 b.rows ((i+1:Nat):Int) H'∧Vd H' p42 y q' R C vr vc vh∧(∀k,bl q' k↔bl q0 k)∧Keep (bl q0) H0 H'∧q'.map Prod.snd=(List.range' j (b.cols.toNat-j)).foldl (lineCell b ac i) (q.map Prod.snd):=by
 intro m2;obtain⟨o1,o2,o3,o4,o5,o6⟩:=hb;induction m2 with
 |zero=>intro j H q hm;omega
 |succ m2 ih=>
  intro j H q hm hj vd hbq kp;rw[j2d_s];have gp:=(kp.2 p hpl hpq).trans hp;by_cases hlt:j<b.cols.toNat
  ·rw[if_pos (show decide ((j:Int)<b.cols)=true from decide_eq_true (by omega)),(ld1_s vd.g4).trans (show _=some y.v from rfl)];simp only[optK_s,asSL_k];rw[(ld1_s gp).trans (show _=some (Value.int .i64 b.row)from rfl)];simp only[optK_s,asI_s];have w1:IntKind.wrap .i64 (b.row+(i:Int))=b.row+(i:Int):=by rw[w64 (by omega)]
   have w2:IntKind.wrap .i64 (b.col+(j:Int))=b.col+(j:Int):=by rw[w64 (by omega)]
   rw[w1];obtain⟨a,x,ea,en,hx,hld,hrw,hxl⟩:=vd.cv.row (i:=b.row.toNat+i) (by omega);rw[ea];simp only[optK_s];rw[if_pos (show 0≤b.row+(i:Int)∧b.row+(i:Int)<(y.n:Int)by rw[en];omega),show(b.row+(i:Int)).toNat=b.row.toNat+i by omega,hld];simp only[optK_s,asSL_k];rw[(ld1_s gp).trans (show _=some (Value.int .i64 b.col)from rfl)];simp only[optK_s,asI_s];rw[(ld1_s gp).trans (show _=some (Value.bool ac)from rfl)];simp only[optK_s,asB_s];obtain⟨H1,e1,k1⟩:=sign_s d ac H;rw[e1];simp only[callK_s,asI_s,optK_s];rw[w2,if_pos (show 0≤b.col+(j:Int)∧b.col+(j:Int)<((C:Nat):Int)by omega),show(b.col+(j:Int)).toNat=b.col.toNat+j by omega];have vd1:=vd.keep k1 (fun _ _ e=>e) (fun _ _ e=>e) id;have hrw1:=hrw.keep k1 id;obtain⟨H2,e2,r2,k2,n2⟩:=stN4 hrw1 (i:=b.col.toNat+j) (by omega) (signC ac);rw[show ap ⟨x.1,0,none⟩ ((b.col.toNat+j)*4)=⟨x.1,(b.col.toNat+j)*4,none⟩by simp[ap]];rw[show Heap.stN H1 ⟨x.1,(b.col.toNat+j)*4,none⟩ [.int .i32 (if ac=true then 124 else 45),.int .i64 0,.int .i64 0,.int .i64 0]=some H2 from e2];simp only[optK_s];have hpl':p<H.next:=Nat.lt_of_lt_of_le hpl kp.1
   have gp1:=k1.get hpl' gp;obtain⟨a',x',ea',_,hx',hld',_,_⟩:=vd1.cv.row (i:=b.row.toNat+i) (by omega);rw[ea]at ea';cases ea';rw[hx]at hx';cases hx';rw[show rdsOk _ _=true from by
    simp only[rdsOk,Bool.and_true];rw[show 1+1-0=2 from rfl,rdOk_2,rdOk_2,rdOk_2,rdOk_2,rdAt_s rfl (show readD (.load 1 false) [.pointer (some ⟨p,1,none⟩)] H=some (.int .i64 b.col)from(ld1_s gp).trans rfl) (same_int _ _),rdAt_s rfl (show readD (.load 1 false) [.pointer (some ⟨p,1,none⟩)] H1=some (.int .i64 b.col)from(ld1_s gp1).trans rfl) (same_int _ _),rdAt_s rfl (show readD (.load 1 false) [.pointer (some (ap a ((b.row.toNat+i)*1)))] H=_ from hld) (same_sl _ _ _),rdAt_s rfl (show readD (.load 1 false) [.pointer (some (ap a ((b.row.toNat+i)*1)))] H1=_ from hld') (same_sl _ _ _),rdAt_s rfl (show readD (.load 1 false) [P0 p] H=some (.int .i64 b.row)from(ld1_s gp).trans rfl) (same_int _ _),rdAt_s rfl (show readD (.load 1 false) [P0 p] H1=some (.int .i64 b.row)from(ld1_s gp1).trans rfl) (same_int _ _),rdAt_s rfl (show readD (.load 1 false) [.pointer (some ⟨p42,2,none⟩)] H=some y.v from(ld1_s vd.g4).trans rfl) (same_sl _ _ _),rdAt_s rfl (show readD (.load 1 false) [.pointer (some ⟨p42,2,none⟩)] H1=some y.v from(ld1_s vd1.g4).trans rfl) (same_sl _ _ _)];rfl]
   simp only[chk_s];have hbx:bl q x.1:=⟨x,List.mem_of_getElem? hx,rfl⟩;obtain⟨cv2,hb2⟩:=vd1.cv.set hx k2 r2 (by rw[List.length_set];exact hxl);have vd2:Vd H2 p42 y (q.set (b.row.toNat+i) (x.1,x.2.set (b.col.toNat+j) (signC ac))) R C vr vc vh:=⟨cv2,(k2.2 _ vd1.lt fun e=>vd.n4 (by have e':p42=x.1:=e;rw[e'];exact hbx)).trans vd1.g4,Nat.lt_of_lt_of_le vd1.lt k2.1,fun e=>vd.n4 ((hb2 _).1 e),vd.ny⟩;rw[wi (by omega)];obtain⟨H',q',e',v',b',k',m'⟩:=ih (j+1) H2 _ (by omega) (by omega) vd2 (fun k=>(hb2 k).trans (hbq k)) ((kp.trans k1 fun _ _ e=>e.elim).trans k2 fun k _ e=>by have e'':k=x.1:=e;rw[e''];exact(hbq _).1 hbx);refine⟨H',q',e',v',b',k',?_⟩;rw[m',show b.cols.toNat-j=(b.cols.toNat-(j+1))+1 by omega,List.range'_succ,List.foldl_cons];exact congrArg (fun V=>List.foldl (lineCell b ac i) V (List.range' (j+1) (b.cols.toNat-(j+1)))) (map_set_snd q hx fun l=>l.set (b.col.toNat+j) (signC ac))
  ·rw[if_neg (show¬decide ((j:Int)<b.cols)=true by rw[decide_eq_true_eq];omega),wi (by omega)];refine⟨H,q,rfl,vd,hbq,kp,?_⟩;rw[show b.cols.toNat-j=0 by omega];rfl
theorem line_rows(d m0:Nat){R C:Nat}(hR:R≤1000)(hC:C≤1000){x4 p42 p:Nat}{y:Sl}{vr vc:Int}{vh:Bool}{b:Rc}{ac:Bool}(hb:b.ok)(hi1:b.row+b.rows≤R)(hi2:b.col+b.cols≤C){x164:Sl}{x165 x166:Int}{q0:Q}{H0:Heap}(hp:H0.get p=some (.cells (bdV (b,ac)) t_87 false 0 false))(hpl:p<H0.next)(hpq:¬bl q0 p):
  ∀(m1 i:Nat) (H:Heap) (q:Q),b.rows.toNat-i<m1→i≤b.rows.toNat→Vd H p42 y q R C vr vc vh→(∀k,bl q k↔bl q0 k)→Keep (bl q0) H0 H→∃H' q',j18 (d+1) m0 m1 x4 p42 p x164 x165 x166 b.rows (i:Int) H=j17 (d+1) m0 x4 p42 x164 x165 (IntKind.wrap .i64 (x166+1)) H'∧Vd H' p42 y q' R C vr vc vh∧(∀k,bl q' k↔bl q0 k)∧Keep (bl q0) H0 H'∧q'.map Prod.snd=(List.range' i (b.rows.toNat-i)).foldl (lineRow b ac) (q.map Prod.snd):=by
 intro m1;have ho:=hb;obtain⟨o1,o2,o3,o4,o5,o6⟩:=ho;induction m1 with
 |zero=>intro i H q hm;omega
 |succ m1 ih=>
  intro i H q hm hi vd hbq kp;rw[j18_s];have gp:=(kp.2 p hpl hpq).trans hp;by_cases hlt:i<b.rows.toNat
  ·rw[if_pos (show decide ((i:Int)<b.rows)=true from decide_eq_true (by omega)),(ld1_s gp).trans (show _=some (Value.int .i64 b.cols)from rfl)];simp only[optK_s,asI_s];obtain⟨H1,q1,e1,v1,b1,k1,s1⟩:=line_cells d m0 m1 hR hC (x4:=x4) hb hi1 hi2 (i:=i) (by omega) (x164:=x164) (x165:=x165) (x166:=x166) hp hpl hpq NN 0 H q (by rw[NN_eq];omega) (by omega) vd hbq kp;rw[show(0:Int)=((0:Nat):Int)from rfl,e1];obtain⟨H',q',e',v',b',k',m'⟩:=ih (i+1) H1 q1 (by omega) (by omega) v1 b1 k1;refine⟨H',q',e',v',b',k',?_⟩;rw[m',s1,show b.rows.toNat-i=(b.rows.toNat-(i+1))+1 by omega,List.range'_succ,List.foldl_cons,Nat.sub_zero];unfold lineRow;rw[List.range_eq_range']
  ·rw[if_neg (show¬decide ((i:Int)<b.rows)=true by rw[decide_eq_true_eq];omega)];refine⟨H,q,rfl,vd,hbq,kp,?_⟩;rw[show b.rows.toNat-i=0 by omega];rfl
theorem ly_ldA5o{H:Heap}{y:Sl}{b:Nat}{l:List (Rc×Bool)}(v:Vw H y b [] (l.flatMap bdV) [] t_87 5){i:Nat}{x:Rc×Bool}(h:l[i]?=some x):ldA H (ap ⟨b,0,none⟩ (i*5)) 5=some (.agg ⟨bdV x⟩):=by obtain⟨_,_,_,_,o,st,g0⟩:=v;have hlt:=(List.getElem?_eq_some_iff.1 h).1;unfold ldA;rw[List.nil_append,List.append_nil]at g0;rw[show ap ⟨b,0,none⟩ (i*5)=⟨b,i*5,none⟩by simp[ap],ldN_s g0 (by rw[fm_len bdV 5 bdV_len];omega),fm_at bdV 5 bdV_len h]
theorem lines_loop(d:Nat){R C:Nat}(hR:R≤1000)(hC:C≤1000){x4 p42:Nat}{y:Sl}{vr vc:Int}{vh:Bool}{l:List (Rc×Bool)}(hl:∀x∈l,x.1.ok∧x.1.row+x.1.rows≤R∧x.1.col+x.1.cols≤C)(hll:l.length≤1000){x164:Sl}{Hs:Heap}(h4:Hs.next≤x4){vs:List Value}(hvs:vs.length=6):
  ∀(m0 k:Nat) (H:Heap) (q:Q),l.length-k<m0→k≤l.length→Vd H p42 y q R C vr vc vh→Whole H x164 (l.flatMap bdV) t_87 5→(∀j,x164.at j→¬bl q j)→(∀j,bl q j→Hs.next≤j)→(∀j,y.at j→Hs.next≤j)→Hs.next≤p42→
   H.get x4=some (.cells vs t_38 false 0 false)→x4<H.next→¬bl q x4→¬y.at x4→x4≠p42→Keep0 Hs H→
   ∃H' q',j17 (d+1) m0 x4 p42 x164 ((l.length:Nat):Int) (k:Int) H=some (.tuple #[.agg ⟨[.int .i64 (R:Int),.int .i64 (C:Int),y.v,.int .i64 vr,.int .i64 vc,.bool vh]⟩,.bool true],H')∧Cv H' y q' R C∧(∀j,bl q' j↔bl q j)∧Keep0 Hs H'∧q'.map Prod.snd=(l.drop k).foldl lineP (q.map Prod.snd):=by
 intro m0;induction m0 with
 |zero=>intro k H q hm;omega
 |succ m0 ih=>
  intro k H q hm hk vd wl hxq hqs hys hps g4 l4 n4 ny4 ne4 k0;rw[j17_s];by_cases hlt:k<l.length
  ·rw[if_pos (show decide ((k:Int)<((l.length:Nat):Int))=true from decide_eq_true (by omega))];have hx:l[k]?=some l[k]:=List.getElem?_eq_getElem hlt;have hxm:l[k]∈l:=List.getElem_mem hlt;have hdr:l.drop k=l[k]::l.drop (k+1):=List.drop_eq_getElem_cons hlt;generalize l[k]=x at hx hxm hdr;obtain⟨xo,xr,xc⟩:=hl x hxm;have hn:x164.n=l.length:=by have:=(Whole.len wl).1;rw[fm_len bdV 5 bdV_len]at this;omega
   have hne:x164.a≠none:=by
    rcases wl with ⟨h1,_⟩|⟨b,n,h1,_⟩
    ·rw[h1]at hn;simp at hn;omega
    ·rw[h1];simp
   obtain⟨b,v,hat⟩:=Vw.of wl hne;rw[v.sa];simp only[optK_s];rw[if_pos (show(0:Int)≤(k:Int)∧(k:Int)<(x164.n:Int)by rw[hn];omega),Int.toNat_natCast];have hld:=ly_ldA5o v hx;rw[show ap ⟨b,([]:List Value).length,none⟩ (k*5)=ap ⟨b,0,none⟩ (k*5)from rfl,hld];simp only[optK_s,asA_s,newK_s];have k1:Keep0 H (H.new (.cells [.int .i64 0,.int .i64 0,.int .i64 0,.int .i64 0,.bool false] t_87 false 0 false)):=Keep.new _ _;have g1:(H.new (.cells [.int .i64 0,.int .i64 0,.int .i64 0,.int .i64 0,.bool false] t_87 false 0 false)).get H.next=some (.cells [.int .i64 0,.int .i64 0,.int .i64 0,.int .i64 0,.bool false] t_87 false 0 false):=by simp
   have n1:(H.new (.cells [.int .i64 0,.int .i64 0,.int .i64 0,.int .i64 0,.bool false] t_87 false 0 false)).next=H.next+1:=rfl
   generalize H.new (.cells [.int .i64 0,.int .i64 0,.int .i64 0,.int .i64 0,.bool false] t_87 false 0 false)=H1 at*;rw[ly_st5 g1 rfl (bdV_len x) rfl];have k2:Keep0 H (H1.put H.next (.cells (bdV x) t_87 false 0 false)):=k1.fresh (Keep.put (S:=fun k=>k=H.next) _ _ _ rfl) fun k e=>by have e':k=H.next:=e;omega
   have g2:(H1.put H.next (.cells (bdV x) t_87 false 0 false)).get H.next=some (.cells (bdV x) t_87 false 0 false):=by simp
   have n2:(H1.put H.next (.cells (bdV x) t_87 false 0 false)).next=H1.next:=rfl
   generalize H1.put H.next (.cells (bdV x) t_87 false 0 false)=H2 at*
   rw[(ld1_s g2).trans (show _=some (Value.int .i64 x.1.rows)from rfl)];simp only[optK_s,asI_s];have hqlt:∀j,bl q j→j<H.next:=fun j e=>vd.cv.r.lt e
   have vd2:=vd.keep k2 (fun _ _ e=>e) (fun _ _ e=>e) id;obtain⟨H3,q3,e3,v3,b3,k3,s3⟩:=line_rows d m0 hR hC (x4:=x4) (p:=H.next) (ac:=x.2) xo xr xc (x164:=x164) (x165:=((l.length:Nat):Int)) (x166:=(k:Int)) (q0:=q) (H0:=H2) g2 (by omega) (fun e=>by have:=hqlt _ e;omega) NN 0 H2 q (by
    obtain⟨_,_,_,_,_,_⟩:=xo;rw[NN_eq];omega) (by omega) vd2 (fun _=>Iff.rfl) (Keep.refl _)
   rw[show(0:Int)=((0:Nat):Int)from rfl,e3,wi (by omega)];have k23:Keep (bl q) H H3:=(k2.to (S:=bl q)).trans k3 fun _ _ e=>e;obtain⟨H',q',e',c',b',k',m'⟩:=ih (k+1) H3 q3 (by omega) (by omega) v3 (wl.keep k23 hxq) (fun j e e'=>hxq j e ((b3 j).1 e')) (fun j e=>hqs j ((b3 j).1 e)) hys hps ((k23.2 _ l4 n4).trans g4) (Nat.lt_of_lt_of_le l4 k23.1) (fun e=>n4 ((b3 _).1 e)) ny4 ne4 (k0.fresh k23 hqs);refine⟨H',q',e',c',fun j=>(b' j).trans (b3 j),k',?_⟩;rw[m',s3,hdr,List.foldl_cons,show lineP (q.map Prod.snd) x=(List.range' 0 (x.1.rows.toNat-0)).foldl (lineRow x.1 x.2) (q.map Prod.snd)by unfold lineP;rw[List.range_eq_range',Nat.sub_zero]]
  ·rw[if_neg (show¬decide ((k:Int)<((l.length:Nat):Int))=true by rw[decide_eq_true_eq];omega)];have hA:ldA H ⟨p42,0,none⟩ 6=some (.agg ⟨[.int .i64 (R:Int),.int .i64 (C:Int),y.v,.int .i64 vr,.int .i64 vc,.bool vh]⟩):=by unfold ldA;rw[ldN_s vd.g4 (by show 0+6≤6;omega)];rfl
   rw[hA];simp only[optK_s,asA_s];have es:Heap.stN H ⟨x4,0,none⟩ [.int .i64 (R:Int),.int .i64 (C:Int),y.v,.int .i64 vr,.int .i64 vc,.bool vh]=some (H.put x4 (.cells [.int .i64 (R:Int),.int .i64 (C:Int),y.v,.int .i64 vr,.int .i64 vc,.bool vh] t_38 false 0 false)):=by simp only[Heap.stN,g4];rw[if_pos ⟨by rw[hvs];simp,Nat.zero_le _⟩];simp only[splice,List.take_zero,List.nil_append,Nat.zero_add];rw[List.drop_eq_nil_of_le (by rw[hvs];simp),List.append_nil]
   have est:∀K,effK (.store 6) [P0 x4,.agg ⟨[.int .i64 (R:Int),.int .i64 (C:Int),y.v,.int .i64 vr,.int .i64 vc,.bool vh]⟩] H K=K (.tuple #[]) (H.put x4 (.cells [.int .i64 (R:Int),.int .i64 (C:Int),y.v,.int .i64 vr,.int .i64 vc,.bool vh] t_38 false 0 false)):=fun K=>by simp only[effK];rw[if_neg (by omega),show cellsL (.agg ⟨[.int .i64 (R:Int),.int .i64 (C:Int),y.v,.int .i64 vr,.int .i64 vc,.bool vh]⟩)=[.int .i64 (R:Int),.int .i64 (C:Int),y.v,.int .i64 vr,.int .i64 vc,.bool vh]from rfl,if_pos ⟨rfl,rfl,by omega⟩,es];rfl
   rw[est];have kp:Keep (fun k=>k=x4) H (H.put x4 (.cells [.int .i64 (R:Int),.int .i64 (C:Int),y.v,.int .i64 vr,.int .i64 vc,.bool vh] t_38 false 0 false)):=Keep.put _ _ _ rfl;have gp:(H.put x4 (.cells [.int .i64 (R:Int),.int .i64 (C:Int),y.v,.int .i64 vr,.int .i64 vc,.bool vh] t_38 false 0 false)).get x4=some (.cells [.int .i64 (R:Int),.int .i64 (C:Int),y.v,.int .i64 vr,.int .i64 vc,.bool vh] t_38 false 0 false):=by simp
   generalize H.put x4 (.cells [.int .i64 (R:Int),.int .i64 (C:Int),y.v,.int .i64 vr,.int .i64 vc,.bool vh] t_38 false 0 false)=H' at*;have hr:readD (.load 6 true) [P0 x4] H'=some (.agg ⟨[.int .i64 (R:Int),.int .i64 (C:Int),y.v,.int .i64 vr,.int .i64 vc,.bool vh]⟩):=by simp only[readD,if_true];rw[ldN_s gp (by show 0+6≤6;omega)];rfl
   have g0:Fr.get [(4,P0 x4),(5,.bool true)] 4=some (P0 x4):=rfl;have g5:Fr.get [(4,P0 x4),(5,.bool true)] 5=some (.bool true):=rfl;refine⟨H',q,by simp only[retK,resL,g0,hr,g5],vd.cv.keep kp (fun j e e'=>ny4 (by have e'':j=x4:=e';rw[←e''];exact e)) (fun j e e'=>n4 (by have e'':j=x4:=e';rw[←e''];exact e)),fun _=>Iff.rfl,k0.fresh kp fun j e=>by have e':j=x4:=e;omega,?_⟩;rw[show l.drop k=[]from List.drop_eq_nil_of_le (by omega)];rfl
theorem AT.ht_lt:∀t:AT,t.ht+1≤t.panes.length
 | .leaf _ _=>Nat.le_refl _
 | .nd _ _ _ l r=>by have h1:=l.ht_lt;have h2:=r.ht_lt;simp only[AT.ht,AT.panes,List.length_append];omega
theorem lk_n:lookV (.pointer none) false true=.tuple ⟨[.pointer none,.bool false]⟩:=rfl
section
variable{H:Heap}{o:Ow}{M:Md}(h:MxOk H o M)
include h
theorem MxOk.l0:Heap.ld1 H ⟨M.m,0,none⟩=some (.int .i64 (M.rows:Int)):=(ld1_s h.gm).trans rfl
theorem MxOk.l1:Heap.ld1 H ⟨M.m,1,none⟩=some (.int .i64 (M.cols:Int)):=(ld1_s h.gm).trans rfl
theorem MxOk.l2:Heap.ld1 H ⟨M.m,2,none⟩=some (.map (some M.sm)):=(ld1_s h.gm).trans rfl
theorem MxOk.l3:Heap.ld1 H ⟨M.m,3,none⟩=some (.map (some M.pm)):=(ld1_s h.gm).trans rfl
theorem MxOk.l4:Heap.ld1 H ⟨M.m,4,none⟩=some (.int .i64 (M.next:Int)):=(ld1_s h.gm).trans rfl
theorem MxOk.l5:Heap.ld1 H ⟨M.m,5,none⟩=some M.bs.v:=(ld1_s h.gm).trans rfl
theorem MxOk.lkS(n:W)(ok:Bool):readD (.lookup .str (.pointer none) ok) [.map (some M.sm),.string (S n)] H=some (match findS M.ss n with
  |none=>lookV (.pointer none) false ok
  |some s=>lookV (P0 s.b) true ok):=by
 obtain⟨es,c,h1,h2⟩:=h.gs;exact lookS h1 h2 h.wm.nn n ok
theorem MxOk.lkP(k:Int)(ok:Bool):readD (.lookup (.int .i64) (.pointer none) ok) [.map (some M.pm),.int .i64 k] H=some (match M.P k with
  |none=>lookV (.pointer none) false ok
  |some x=>lookV (P0 x.b) true ok):=by
 obtain⟨es,c,h1,h2⟩:=h.gp;exact lookP h1 h2 k ok
def cur(M:Md)(n:W)(s:Sn)(b:Nat)(w:Wn):Prop:=findS M.ss n=some s∧s.wbs[s.cur]?=some b∧M.W b=some w∧w.ses=s.b
theorem window_c(d:Nat){n:W}{s:Sn}{b:Nat}{w:Wn}(hc:cur M n s b w):X (d+1) n_18 [P0 M.m,.string (S n)] H=some (P0 b,H):=by obtain⟨hn,hb,hw,_⟩:=hc;have sx:=h.hS s (findS_mem hn).1;rw[mux_Mux_window_eq,h.l2];simp only[optK_s,asM_s];rw[h.lkS n true,hn];simp only[lookV_t,optK_s,castT_s,castL_c,castL_n,cast0,P0,asP_s,asB_s,List.getElem?_cons_zero,List.getElem?_cons_succ];rw[if_neg (by simp)];simp only[nilP_s,ap_0,ap_1];rw[(ld1_s sx.get).trans (show _=some (Value.slice (some ⟨s.wl,0,none⟩) s.wbs.length s.cap)from rfl)];simp only[optK_s,asSL_k2];rw[(ld1_s sx.get).trans (show _=some (Value.int .i64 (s.cur:Int))from rfl)];simp only[optK_s,asI_s];have hlt:=(List.getElem?_eq_some_iff.1 hb).1;rw[if_pos (by omega),Int.toNat_natCast,show ap ⟨s.wl,0,none⟩ (s.cur*1)=⟨s.wl,s.cur,none⟩by simp[ap]];obtain⟨_,_,Z,op,st,g,_⟩:=sx.ws;rw[ld1_s g,List.getElem?_append_left (by simpa using hlt),List.getElem?_map,hb];simp only[Option.map_some,optK_s,P0,asP_s]
end
structure VP where
 rows:Nat
 cols:Nat
 L:List (List Cl)
 r:Int
 c:Int
 h:Bool
def VP.l(v:VP)(y:Sl):List Value:=[.int .i64 (v.rows:Int),.int .i64 (v.cols:Int),y.v,.int .i64 v.r,.int .i64 v.c,.bool v.h]
def G.vp(g:G):VP:=⟨g.c.rows,g.c.cols,g.L,g.c.row,g.c.col,g.c.hidden⟩
def viewStep(M:Md)(act:Int)(v:VP)(e:Int×Rc):VP:=match M.P e.1 with
 |none=>v
 |some x=>if e.1=act then⟨v.rows,v.cols,paintP v.rows v.cols e.2 x.q.g.c.rows x.q.g.c.cols x.q.g.L v.L,min (e.2.row+x.q.g.c.row) (M.rows-1),min (e.2.col+x.q.g.c.col) (M.cols-1),x.q.g.c.hidden||decide (e.2.rows=0)||decide (e.2.cols=0)⟩
  else {v with L:=paintP v.rows v.cols e.2 x.q.g.c.rows x.q.g.c.cols x.q.g.L v.L}
def blankV(R C:Nat):VP:=⟨R,C,List.replicate R (List.replicate C blank),0,0,false⟩
def viewU(M:Md)(w:Wn):VP:=let v:=(w.t.panes.zip (w.t.places (winRc M.rows M.cols))).foldl (viewStep M w.act) (blankV M.rows M.cols)
 {v with L:=(w.t.lines (winRc M.rows M.cols)).foldl lineP v.L}
def viewP(M:Md)(w:Wn):VP:=if w.zm=true then(match M.P w.act with
 |none=>blankV 1 1
 |some x=>x.q.g.vp)else viewU M w
theorem st6{H:Heap}{b:Nat}{l c:List Value}{e:TypeId}{K:Value→Heap→Res}(h:H.get b=some (.cells l e false 0 false))(hl:l.length=6)(hc:c.length=6)(h1:c.all one=true):effK (.store 6) [P0 b,.agg ⟨c⟩] H K=K (.tuple #[]) (H.put b (.cells c e false 0 false)):=by
 have:Heap.stN H ⟨b,0,none⟩ c=some (H.put b (.cells c e false 0 false)):=by simp only[Heap.stN,h];rw[if_pos ⟨by omega,Nat.le_refl _⟩];simp only[splice,List.take_zero,List.nil_append,Nat.zero_add];rw[List.drop_eq_nil_of_le (by omega),List.append_nil]
 simp only[effK];rw[if_neg (by omega),show cellsL (.agg ⟨c⟩)=c from rfl,if_pos ⟨hc,h1,by omega⟩,this];rfl
theorem ldA6{H:Heap}{b:Nat}{x:List Value}{e:TypeId}{o st:Bool}{fz:Nat}(h:H.get b=some (.cells x e o fz st))(hx:x.length=6):ldA H ⟨b,0,none⟩ 6=some (.agg ⟨x⟩):=by unfold ldA;rw[ldN_s h (by omega),List.drop_zero,List.take_of_length_le (by omega)]
theorem Rc.l_len(r:Rc):r.l.length=4:=rfl
theorem rc_at{H:Heap}{y:Sl}{l:List Rc}(w:Whole H y (l.flatMap Rc.l) t_83 4){i:Nat}{r:Rc}(h:l[i]?=some r):∃b,y.a=some ⟨b,0,none⟩∧y.n=l.length∧ldA H (ap ⟨b,0,none⟩ (((i:Int).toNat)*4)) 4=some (.agg ⟨r.l⟩)∧Heap.ld1 H (ap (ap ⟨b,0,none⟩ (((i:Int).toNat)*4)) 0)=some (.int .i64 r.row)∧Heap.ld1 H (ap (ap ⟨b,0,none⟩ (((i:Int).toNat)*4)) 1)=some (.int .i64 r.col)∧Heap.ld1 H (ap (ap ⟨b,0,none⟩ (((i:Int).toNat)*4)) 2)=some (.int .i64 r.rows)∧Heap.ld1 H (ap (ap ⟨b,0,none⟩ (((i:Int).toNat)*4)) 3)=some (.int .i64 r.cols):=by
 have hlt:=(List.getElem?_eq_some_iff.1 h).1;have hn:y.n=l.length:=by have:=(Whole.len w).1;rw[Rc.flat_len]at this;omega
 have hne:y.a≠none:=by
  rcases w with ⟨h1,_⟩|⟨b,q,h1,_⟩
  ·rw[h1]at hn;simp at hn;omega
  ·rw[h1];simp
 obtain⟨b,v,_⟩:=Vw.of w hne;obtain⟨sa,_,_,_,o,st,g0⟩:=v;rw[List.nil_append,List.append_nil]at g0;have hfm:=fm_at Rc.l 4 Rc.l_len h;have hc:∀j,j<4→(l.flatMap Rc.l)[i*4+j]?=r.l[j]?:=fun j hj=>by rw[←hfm,List.getElem?_take,if_pos hj,List.getElem?_drop]
 refine⟨b,sa,hn,?_,?_,?_,?_,?_⟩
 ·unfold ldA;rw[Int.toNat_natCast,show ap ⟨b,0,none⟩ (i*4)=⟨b,i*4,none⟩by simp[ap],ldN_s g0 (by rw[Rc.flat_len];omega),hfm]
 ·rw[Int.toNat_natCast,show ap (ap ⟨b,0,none⟩ (i*4)) 0=⟨b,i*4+0,none⟩by simp[ap],ld1_s g0,hc 0 (by omega)];rfl
 ·rw[Int.toNat_natCast,show ap (ap ⟨b,0,none⟩ (i*4)) 1=⟨b,i*4+1,none⟩by simp[ap],ld1_s g0,hc 1 (by omega)];rfl
 ·rw[Int.toNat_natCast,show ap (ap ⟨b,0,none⟩ (i*4)) 2=⟨b,i*4+2,none⟩by simp[ap],ld1_s g0,hc 2 (by omega)];rfl
 ·rw[Int.toNat_natCast,show ap (ap ⟨b,0,none⟩ (i*4)) 3=⟨b,i*4+3,none⟩by simp[ap],ld1_s g0,hc 3 (by omega)];rfl
theorem Vd.st{H:Heap}{p42:Nat}{y:Sl}{q:Q}{R C:Nat}{vr vc:Int}{vh:Bool}(h:Vd H p42 y q R C vr vc vh):(∀v:Int,∃H',Heap.st1 H ⟨p42,3,none⟩ (.int .i64 v)=some H'∧Vd H' p42 y q R C v vc vh∧Keep (fun k=>k=p42) H H')∧(∀v:Int,∃H',Heap.st1 H ⟨p42,4,none⟩ (.int .i64 v)=some H'∧Vd H' p42 y q R C vr v vh∧Keep (fun k=>k=p42) H H')∧(∀v:Bool,∃H',Heap.st1 H ⟨p42,5,none⟩ (.bool v)=some H'∧Vd H' p42 y q R C vr vc v∧Keep (fun k=>k=p42) H H'):=by
 have mk:∀(vr' vc':Int) (vh':Bool),Vd (H.put p42 (.cells [.int .i64 (R:Int),.int .i64 (C:Int),y.v,.int .i64 vr',.int .i64 vc',.bool vh'] t_38 false 0 false)) p42 y q R C vr' vc' vh'∧Keep (fun k=>k=p42) H (H.put p42 (.cells [.int .i64 (R:Int),.int .i64 (C:Int),y.v,.int .i64 vr',.int .i64 vc',.bool vh'] t_38 false 0 false)):=fun vr' vc' vh'=>by
  have kp:Keep (fun k=>k=p42) H (H.put p42 (.cells [.int .i64 (R:Int),.int .i64 (C:Int),y.v,.int .i64 vr',.int .i64 vc',.bool vh'] t_38 false 0 false)):=Keep.put _ _ _ rfl;refine⟨⟨h.cv.keep kp (fun k e e'=>h.ny ?_) fun k e e'=>h.n4 ?_,by simp,h.lt,h.n4,h.ny⟩,kp⟩
  ·have e'':k=p42:=e';rw[←e''];exact e
  ·have e'':k=p42:=e';rw[←e''];exact e
 refine⟨fun v=>⟨_,(st1_s h.g4 (by show 3<6;omega) (by omega)).trans rfl,mk v vc vh⟩,fun v=>⟨_,(st1_s h.g4 (by show 4<6;omega) (by omega)).trans rfl,mk vr v vh⟩,fun v=>⟨_,(st1_s h.g4 (by show 5<6;omega) (by omega)).trans rfl,mk vr vc v⟩⟩
theorem viewStep_size(M:Md)(act:Int)(v:VP)(e:Int×Rc):(viewStep M act v e).rows=v.rows∧(viewStep M act v e).cols=v.cols:=by
 unfold viewStep;split
 ·exact⟨rfl,rfl⟩
 ·split<;>exact⟨rfl,rfl⟩
theorem views_size(M:Md)(act:Int):∀(l:List (Int×Rc)) (v:VP),(l.foldl (viewStep M act) v).rows=v.rows∧(l.foldl (viewStep M act) v).cols=v.cols
 |[],v=>⟨rfl,rfl⟩
 |e::l,v=>by have h1:=viewStep_size M act v e;have h2:=views_size M act l (viewStep M act v e);exact⟨h2.1.trans h1.1,h2.2.trans h1.2⟩
theorem zip_at{α β:Type}{a:List α}{b:List β}{i:Nat}{x:α}{y:β}(h1:a[i]?=some x)(h2:b[i]?=some y):(a.zip b).drop i=(x,y)::(a.zip b).drop (i+1):=by have hz:(a.zip b)[i]?=some (x,y):=List.getElem?_zip_eq_some.2 ⟨h1,h2⟩;obtain⟨hl,he⟩:=List.getElem?_eq_some_iff.1 hz;rw[List.drop_eq_getElem_cons hl,he]
theorem view_loop(d:Nat){Hs:Heap}{o:Ow}{M:Md}(h0:MxOk Hs o M){b:Nat}{w:Wn}(hw:M.W b=some w){x4 p42:Nat}{xa xb y:Sl}(h4:Hs.next≤x4)(h42:Hs.next≤p42)(hya:∀j,y.at j→Hs.next≤j){vs:List Value}(hvs:vs.length=6)(ne4:x4≠p42)(ny4:¬y.at x4)(hx:∀j,xa.at j∨xb.at j→j≠p42):
  ∀(m0 i:Nat) (H:Heap) (q:Q) (vr vc:Int) (vh:Bool),w.t.panes.length-i<m0→i≤w.t.panes.length→Vd H p42 y q M.rows M.cols vr vc vh→Whole H xa ((w.t.places (winRc M.rows M.cols)).flatMap Rc.l) t_83 4→Whole H xb (w.t.panes.map (.int .i64)) t_3 1→(∀j,xa.at j∨xb.at j→¬bl q j)→(∀j,bl q j→Hs.next≤j)→H.get x4=some (.cells vs t_38 false 0 false)→x4<H.next→¬bl q x4→Keep0 Hs H→
   ∃H' q' v',j2c (d+40) m0 M.m x4 (some ⟨b,0,none⟩) p42 xa xb ((w.t.panes.length:Nat):Int) (i:Int) H=some (.tuple #[.agg ⟨VP.l v' y⟩,.bool true],H')∧Cv H' y q' M.rows M.cols∧(∀j,bl q' j→Hs.next≤j)∧Keep0 Hs H'∧q'.map Prod.snd=v'.L∧v'={((w.t.panes.zip (w.t.places (winRc M.rows M.cols))).drop i).foldl (viewStep M w.act) ⟨M.rows,M.cols,q.map Prod.snd,vr,vc,vh⟩with L:=(w.t.lines (winRc M.rows M.cols)).foldl lineP (((w.t.panes.zip (w.t.places (winRc M.rows M.cols))).drop i).foldl (viewStep M w.act) ⟨M.rows,M.cols,q.map Prod.snd,vr,vc,vh⟩).L}:=by
 intro m0;obtain⟨r1,r2⟩:=h0.wm.r;obtain⟨c1,c2⟩:=h0.wm.c;obtain⟨tp1,tp2,tp3,tp4,tp5⟩:=h0.wm.tp b w hw;have hwin:(winRc M.rows M.cols).ok:=winRc_ok ⟨by omega,by omega⟩;induction m0 with
 |zero=>intro i H q vr vc vh hm;omega
 |succ m0 ih=>
  intro i H q vr vc vh hm hi vd wa wb hxq hqs g4 l4 n4 k0;rw[j2c_s];have h1:=h0.new k0;have wx:=h1.hW b w hw;by_cases hlt:i<w.t.panes.length
  ·rw[if_pos (show decide ((i:Int)<((w.t.panes.length:Nat):Int))=true from decide_eq_true (by omega))];have hk:w.t.panes[i]?=some w.t.panes[i]:=List.getElem?_eq_getElem hlt;have hkm:w.t.panes[i]∈w.t.panes:=List.getElem_mem hlt;generalize w.t.panes[i]=k at hk hkm;have hpl:i<(w.t.places (winRc M.rows M.cols)).length:=by rw[AT.places_len];exact hlt
   have hr:(w.t.places (winRc M.rows M.cols))[i]?=some (w.t.places (winRc M.rows M.cols))[i]:=List.getElem?_eq_getElem hpl;have hrm:(w.t.places (winRc M.rows M.cols))[i]∈w.t.places (winRc M.rows M.cols):=List.getElem_mem hpl;generalize (w.t.places (winRc M.rows M.cols))[i]=r at hr hrm;obtain⟨rok,rin⟩:=w.t.places_ok hwin r hrm;have hzip:=zip_at hk hr;obtain⟨x,hx1,hx2⟩:=tp4 k hkm;have px:=h1.hP k x hx1;have hxb:xb.n=w.t.panes.length:=by have:=(Whole.len wb).1;rw[List.length_map]at this;omega
   obtain⟨bb,eb,lb⟩:=lyIntAt wb hk;rw[eb];simp only[optK_s];rw[if_pos (show(0:Int)≤(i:Int)∧(i:Int)<(xb.n:Int)by rw[hxb];omega),lb];simp only[optK_s,asI_s];rw[h1.l3];simp only[optK_s,asM_s];rw[h1.lkP k false,hx1];simp only[lookV_f,optK_s,P0,asP_s,nilP_s,ap_0];rw[(ld1_s px.get).trans (show _=some (P0 x.A.D.p)from rfl)];simp only[optK_s,P0,asP_s];obtain⟨ys,ps,H1,e1,os,rs',ms,fy,fp,_,k1⟩:=Screen_s (d+37) px.gr.rep px.gr.wf;rw[show X (d+40) n_23 [.pointer (some ⟨x.A.D.p,0,none⟩)] H=_ from e1];simp only[callK_s,asA_s,newK_s];have k2:Keep0 H1 (H1.new (.cells [.int .i64 0,.int .i64 0,.slice none 0 0,.int .i64 0,.int .i64 0,.bool false] t_38 false 0 false)):=Keep.new _ _;have g2:(H1.new (.cells [.int .i64 0,.int .i64 0,.slice none 0 0,.int .i64 0,.int .i64 0,.bool false] t_38 false 0 false)).get H1.next=some (.cells [.int .i64 0,.int .i64 0,.slice none 0 0,.int .i64 0,.int .i64 0,.bool false] t_38 false 0 false):=by simp
   have n2:(H1.new (.cells [.int .i64 0,.int .i64 0,.slice none 0 0,.int .i64 0,.int .i64 0,.bool false] t_38 false 0 false)).next=H1.next+1:=rfl
   generalize H1.new (.cells [.int .i64 0,.int .i64 0,.slice none 0 0,.int .i64 0,.int .i64 0,.bool false] t_38 false 0 false)=H2 at*;rw[show∀K,effK (.store 6) [.pointer (some ⟨H1.next,0,none⟩),.agg ⟨scrL x.q.g.c ys⟩] H2 K=_ from fun K=>st6 (K:=K) g2 rfl rfl rfl];have k3:Keep0 H1 (H2.put H1.next (.cells (scrL x.q.g.c ys) t_38 false 0 false)):=k2.fresh (Keep.put (S:=fun k=>k=H1.next) _ _ _ rfl) fun k e=>by have e':k=H1.next:=e;omega
   have g3:(H2.put H1.next (.cells (scrL x.q.g.c ys) t_38 false 0 false)).get H1.next=some (.cells (scrL x.q.g.c ys) t_38 false 0 false):=by simp
   have n3:(H2.put H1.next (.cells (scrL x.q.g.c ys) t_38 false 0 false)).next=H2.next:=rfl
   generalize H2.put H1.next (.cells (scrL x.q.g.c ys) t_38 false 0 false)=H3 at*
   have k13:Keep0 H H3:=k1.trans k3;have vd3:=vd.keep k13 (fun _ _ e=>e) (fun _ _ e=>e) id;have wa3:=wa.keep k13 fun _ _ e=>e;have wb3:=wb.keep k13 fun _ _ e=>e;have m1:=k1.1;rw[ldA6 vd3.g4 rfl];simp only[optK_s,asA_s];rw[show ldA H3 ⟨H1.next,0,none⟩ 6=_ from ldA6 g3 rfl];simp only[optK_s,asA_s];obtain⟨ba,ea,na,la,_,_,_,_⟩:=rc_at wa3 hr;rw[ea];simp only[optK_s];have hna:xa.n=w.t.panes.length:=by rw[na,AT.places_len]
   rw[if_pos (show(0:Int)≤(i:Int)∧(i:Int)<(xa.n:Int)by rw[hna];omega),la];simp only[optK_s,asA_s];have hqlt:∀j,bl q j→j<H.next:=fun j e=>vd.cv.r.lt e
   have wf:=px.gr.wf;obtain⟨H4,q4,e4,cv4,b4,k4,s4⟩:=paint_s (d+39) (by omega) (by omega) vd3.cv rok (vr:=vr) (vc:=vc) (vh:=vh) (c:=x.q.g.c) (Whole.keep os k3 fun _ _ e=>e) (rs'.keep k3 fun _ _ e=>e) ms wf.Ln wf.Lw (by have:=wf.r2;omega) (by have:=wf.c2;omega) (fun j e e'=>by have:=fy j e;have:=hqlt j e';omega) (fun j e e'=>by have:=fp j e;have:=hqlt j e';omega);rw[show X (d+40) n_26 [.agg ⟨[.int .i64 (M.rows:Int),.int .i64 (M.cols:Int),y.v,.int .i64 vr,.int .i64 vc,.bool vh]⟩,.agg ⟨scrL x.q.g.c ys⟩,.agg ⟨r.l⟩] H3=_ from e4];simp only[callK_s,nilP_s,ap_1];have kq:Keep (bl q) H H4:=(k13.to (S:=bl q)).trans k4 fun _ _ e=>e;have k04:Keep0 Hs H4:=k0.fresh kq hqs;have h5:=h0.new k04;have wx5:=h5.hW b w hw;have vd4:Vd H4 p42 y q4 M.rows M.cols vr vc vh:=⟨cv4,(k4.2 _ vd3.lt vd.n4).trans vd3.g4,Nat.lt_of_lt_of_le vd3.lt k4.1,fun e=>vd.n4 ((b4 _).1 e),vd.ny⟩;have wa4:=wa3.keep k4 fun j e=>hxq j (.inl e);have wb4:=wb3.keep k4 fun j e=>hxq j (.inr e);rw[(ld1_s wx5.get).trans (show _=some (Value.int .i64 w.act)from rfl)];simp only[optK_s,asI_s];have go:∀(H6:Heap) (vr' vc':Int) (vh':Bool),Vd H6 p42 y q4 M.rows M.cols vr' vc' vh'→Keep (fun j=>j=p42) H4 H6→viewStep M w.act ⟨M.rows,M.cols,q.map Prod.snd,vr,vc,vh⟩ (k,r)=⟨M.rows,M.cols,q4.map Prod.snd,vr',vc',vh'⟩→∃H' q' v',jj (d+40) m0 M.m x4 (some ⟨b,0,none⟩) p42 xa xb ((w.t.panes.length:Nat):Int) (i:Int) H6=some (.tuple #[.agg ⟨VP.l v' y⟩,.bool true],H')∧Cv H' y q' M.rows M.cols∧(∀j,bl q' j→Hs.next≤j)∧Keep0 Hs H'∧q'.map Prod.snd=v'.L∧v'={((w.t.panes.zip (w.t.places (winRc M.rows M.cols))).drop i).foldl (viewStep M w.act) ⟨M.rows,M.cols,q.map Prod.snd,vr,vc,vh⟩with L:=(w.t.lines (winRc M.rows M.cols)).foldl lineP (((w.t.panes.zip (w.t.places (winRc M.rows M.cols))).drop i).foldl (viewStep M w.act) ⟨M.rows,M.cols,q.map Prod.snd,vr,vc,vh⟩).L}:=by
    intro H6 vr' vc' vh' vd6 k6 hv;rw[jj_eq,wi (by omega),hzip,List.foldl_cons,hv];have kq6:Keep (fun j=>bl q j∨j=p42) H H6:=(kq.mono (T:=fun j=>bl q j∨j=p42) fun _ _ e=>.inl e).trans k6 fun _ _ e=>.inr e;refine ih (i+1) H6 q4 vr' vc' vh' (by omega) (by omega) vd6 (wa4.keep k6 fun j e=>hx j (.inl e)) (wb4.keep k6 fun j e=>hx j (.inr e)) (fun j e e'=>hxq j e ((b4 j).1 e')) (fun j e=>hqs j ((b4 j).1 e)) ((kq6.2 _ l4 fun e=>e.elim n4 ne4).trans g4) (Nat.lt_of_lt_of_le l4 kq6.1) (fun e=>n4 ((b4 _).1 e)) (k0.fresh kq6 fun j e=>?_);rcases e with e|e
    ·exact hqs j e
    ·rw[e];exact h42
   by_cases hka:k=w.act
   ·rw[if_pos (show decide (k=w.act)=true from decide_eq_true hka)];obtain⟨ba',ea',na',_,lr,lc,lrs,lcs⟩:=rc_at wa4 hr;rw[ea]at ea';cases ea';rw[if_pos (show(0:Int)≤(i:Int)∧(i:Int)<(xa.n:Int)by rw[hna];omega),lr];simp only[optK_s,asI_s];have g4':=(k4.2 H1.next (by omega) fun e=>by have:=hqlt _ e;omega).trans g3;rw[(ld1_s g4').trans (show _=some (Value.int .i64 (x.q.g.c.row:Int))from rfl)];simp only[optK_s,asI_s];rw[h5.l0];simp only[optK_s,asI_s];rw[if_pos (show(0:Int)≤(i:Int)∧(i:Int)<(xa.n:Int)by rw[hna];omega),lc];simp only[optK_s,asI_s];rw[(ld1_s g4').trans (show _=some (Value.int .i64 (x.q.g.c.col:Int))from rfl)];simp only[optK_s,asI_s];rw[h5.l1];simp only[optK_s,asI_s];obtain⟨ro1,ro2,ro3,ro4,ro5,ro6⟩:=rok;have wrow:=wf.row;have wcol:=wf.col;have wr2:=wf.r2;have wc2:=wf.c2;rw[show IntKind.wrap .i64 ((M.rows:Int)-1)=(M.rows:Int)-1 by rw[w64 (by omega)],show IntKind.wrap .i64 (r.row+(x.q.g.c.row:Int))=r.row+(x.q.g.c.row:Int)by rw[w64 (by omega)],show IntKind.wrap .i64 ((M.cols:Int)-1)=(M.cols:Int)-1 by rw[w64 (by omega)],show IntKind.wrap .i64 (r.col+(x.q.g.c.col:Int))=r.col+(x.q.g.c.col:Int)by rw[w64 (by omega)]];have hmin:∀a b:Int,(if b<a then b else a)=min a b:=fun a b=>by split<;>omega
    rw[hmin,hmin];obtain⟨H5,e5,vd5,k5⟩:=vd4.st.1 (min (r.row+(x.q.g.c.row:Int)) ((M.rows:Int)-1));rw[e5];simp only[optK_s];obtain⟨H6,e6,vd6,k6⟩:=vd5.st.2.1 (min (r.col+(x.q.g.c.col:Int)) ((M.cols:Int)-1));rw[e6];simp only[optK_s];have hp4:H1.next≠p42:=fun e=>by have:=vd.lt;omega
    have k46:Keep (fun j=>j=p42) H4 H6:=k5.trans k6 fun _ _ e=>e;have wa5:=wa4.keep k5 fun j e=>hx j (.inl e);obtain⟨ba5,ea5,_,_,_,lc5,_,_⟩:=rc_at wa5 hr;rw[ea]at ea5;cases ea5;have m4:=k4.1;have n13:=k13.1;have hp5:H1.next<H4.next:=by omega
    have g5':=(k5.2 H1.next hp5 hp4).trans g4';have h55:=h0.new (k04.fresh k5 fun j e=>by have e':j=p42:=e;rw[e'];exact h42);rw[show rdsOk _ _=true from by
     simp only[rdsOk,Bool.and_true];rw[show 1+1-0=2 from rfl,rdOk_2,rdOk_2,rdOk_2,rdAt_s rfl (show readD (.load 1 false) [.pointer (some ⟨M.m,1,none⟩)] H4=_ from h5.l1) (same_int _ _),rdAt_s rfl (show readD (.load 1 false) [.pointer (some ⟨M.m,1,none⟩)] H5=_ from h55.l1) (same_int _ _),rdAt_s rfl (show readD (.load 1 false) [.pointer (some ⟨H1.next,4,none⟩)] H4=some (.int .i64 (x.q.g.c.col:Int))from(ld1_s g4').trans rfl) (same_int _ _),rdAt_s rfl (show readD (.load 1 false) [.pointer (some ⟨H1.next,4,none⟩)] H5=some (.int .i64 (x.q.g.c.col:Int))from(ld1_s g5').trans rfl) (same_int _ _),rdAt_s rfl (show readD (.load 1 false) [.pointer (some (ap (ap ⟨ba,0,none⟩ (((i:Int).toNat)*4)) 1))] H4=_ from lc) (same_int _ _),rdAt_s rfl (show readD (.load 1 false) [.pointer (some (ap (ap ⟨ba,0,none⟩ (((i:Int).toNat)*4)) 1))] H5=_ from lc5) (same_int _ _)];rfl]
    simp only[chk_s];have g6':=(k46.2 H1.next hp5 hp4).trans g4';rw[(ld1_s g6').trans (show _=some (Value.bool x.q.g.c.hidden)from rfl)];simp only[optK_s,asB_s];have wa6:=wa4.keep k46 fun j e=>hx j (.inl e);obtain⟨ba6,ea6,_,_,_,_,lrs6,lcs6⟩:=rc_at wa6 hr;rw[ea]at ea6;cases ea6;have hvs:∀hh:Bool,hh=(x.q.g.c.hidden||decide (r.rows=0)||decide (r.cols=0))→viewStep M w.act ⟨M.rows,M.cols,q.map Prod.snd,vr,vc,vh⟩ (k,r)=⟨M.rows,M.cols,q4.map Prod.snd,min (r.row+(x.q.g.c.row:Int)) ((M.rows:Int)-1),min (r.col+(x.q.g.c.col:Int)) ((M.cols:Int)-1),hh⟩:=fun hh e=>by unfold viewStep;simp only[hx1];rw[if_pos hka,s4,e]
    by_cases hh:x.q.g.c.hidden=true
    ·rw[if_pos hh];obtain⟨H7,e7,vd7,k7⟩:=vd6.st.2.2 true;rw[e7];simp only[optK_s];exact go H7 _ _ _ vd7 (k46.trans k7 fun _ _ e=>e) (hvs true (by rw[hh];rfl))
    ·have hh':x.q.g.c.hidden=false:=by simpa using hh
     rw[if_neg hh,if_pos (show(0:Int)≤(i:Int)∧(i:Int)<(xa.n:Int)by rw[hna];omega),lrs6];simp only[optK_s,asI_s];by_cases h00:r.rows=0
     ·rw[if_pos (show decide (r.rows=0)=true from decide_eq_true h00)];obtain⟨H7,e7,vd7,k7⟩:=vd6.st.2.2 true;rw[e7];simp only[optK_s];exact go H7 _ _ _ vd7 (k46.trans k7 fun _ _ e=>e) (hvs true (by rw[hh',decide_eq_true h00];rfl))
     ·rw[if_neg (show¬decide (r.rows=0)=true by simpa using h00),if_pos (show(0:Int)≤(i:Int)∧(i:Int)<(xa.n:Int)by rw[hna];omega),lcs6];simp only[optK_s,asI_s];obtain⟨H7,e7,vd7,k7⟩:=vd6.st.2.2 (decide (r.cols=0));rw[e7];simp only[optK_s];exact go H7 _ _ _ vd7 (k46.trans k7 fun _ _ e=>e) (hvs _ (by rw[hh',decide_eq_false h00];rfl))
   ·rw[if_neg (show¬decide (k=w.act)=true by simpa using hka)];refine go H4 vr vc vh vd4 (Keep.refl _) ?_;unfold viewStep;simp only[hx1];rw[if_neg hka,s4]
  ·rw[if_neg (show¬decide ((i:Int)<((w.t.panes.length:Nat):Int))=true by rw[decide_eq_true_eq];omega)];simp only[nilP_s,ap_0];rw[(ld1_s wx.get).trans (show _=some (P0 w.tb)from rfl)];simp only[optK_s,P0,asP_s];rw[h1.l0];simp only[optK_s,asI_s];rw[h1.l1];simp only[optK_s,asI_s];have hht:=w.t.ht_lt;obtain⟨d',hd⟩:∃d',d+40=3+(w.t.ht+(2+d'))+1+1:=⟨d+33-w.t.ht,by omega⟩;obtain⟨sl,H1,e1,wl,k1,fl⟩:=lyLines_s d' M.rows M.cols ⟨by omega,by omega⟩ wx.gt wx.tl wx.tr (by omega);rw[show X (d+40) n_27 [.pointer (some ⟨w.tb,0,none⟩),.int .i64 (M.rows:Int),.int .i64 (M.cols:Int)] H=some (sl.v,H1)from by rw[hd];exact e1];simp only[callK_s,asSL_k];rw[w.t.walk_lines]at wl;have hsn:sl.n=(w.t.lines (winRc M.rows M.cols)).length:=by have:=(Whole.len wl).1;rw[fm_len bdV 5 bdV_len]at this;omega
   have hll:=w.t.lines_len (winRc M.rows M.cols);have vd1:=vd.keep k1 (fun _ _ e=>e) (fun _ _ e=>e) id;have hqlt:∀j,bl q j→j<H.next:=fun j e=>vd.cv.r.lt e
   obtain⟨H',q',e',cv',b',k',m'⟩:=lines_loop (d+39) (R:=M.rows) (C:=M.cols) (by omega) (by omega) (x4:=x4) (p42:=p42) (l:=w.t.lines (winRc M.rows M.cols)) (fun x hx=>by obtain⟨a1,a2⟩:=w.t.lines_ok hwin x hx;obtain⟨i1,i2,i3,i4⟩:=a2;have e1:(winRc M.rows M.cols).row=0:=rfl;have e2:(winRc M.rows M.cols).col=0:=rfl;have e3:(winRc M.rows M.cols).rows=M.rows:=rfl;have e4:(winRc M.rows M.cols).cols=M.cols:=rfl;exact⟨a1,by omega,by omega⟩) (by omega) h4 hvs NN 0 H1 q (by rw[NN_eq];omega) (by omega) vd1 wl (fun j e e'=>by have:=fl j e;have:=hqlt j e';omega) hqs hya h42 (k1.get l4 g4) (Nat.lt_of_lt_of_le l4 k1.1) n4 ny4 ne4 (k0.trans k1);rw[show(sl.n:Int)=(((w.t.lines (winRc M.rows M.cols)).length:Nat):Int)by rw[hsn],show(0:Int)=((0:Nat):Int)from rfl,e'];have hz:(w.t.panes.zip (w.t.places (winRc M.rows M.cols))).drop i=[]:=List.drop_eq_nil_of_le (by rw[List.length_zip,AT.places_len];omega);rw[hz];refine⟨H',q',_,rfl,cv',fun j e=>hqs j ((b' j).1 e),k',?_,rfl⟩;rw[m',List.drop_zero];rfl
def zeroS:List Value:=[.int .i64 0,.int .i64 0,.slice none 0 0,.int .i64 0,.int .i64 0,.bool false]
structure Sh(N:Nat)(H:Heap)(y:Sl)(q:Q)(L:List (List Cl)):Prop where
 o:Outer H y q
 r:Rows H q
 m:q.map Prod.snd=L
 fy:∀k,y.at k→N≤k
 fq:∀k,bl q k→N≤k
theorem Sh.keep{S:Nat→Prop}{N:Nat}{H H':Heap}{y:Sl}{q:Q}{L:List (List Cl)}(h:Sh N H y q L)(hk:Keep S H H')(hS:∀k,S k→N≤k→¬k<H.next):Sh N H' y q L:=⟨Whole.keep h.o hk fun k e e'=>hS k e' (h.fy k e) (Whole.lt h.o e),h.r.keep hk fun k e e'=>hS k e' (h.fq k e) (h.r.lt e),h.m,h.fy,h.fq⟩
theorem ret6{H:Heap}{b:Nat}{l:List Value}(h:H.get b=some (.cells l t_38 false 0 false))(hl:l.length=6)(v:Value):retK [.cell 4 6 true,.tmp 5] [(4,P0 b),(5,v)] H=some (.tuple #[.agg ⟨l⟩,v],H):=by
 have hr:readD (.load 6 true) [P0 b] H=some (.agg ⟨l⟩):=by simp only[readD,if_true];rw[ldN_s h (by omega),List.drop_zero,List.take_of_length_le (by omega)]
 have g0:Fr.get [(4,P0 b),(5,v)] 4=some (P0 b):=rfl;have g5:Fr.get [(4,P0 b),(5,v)] 5=some v:=rfl;simp only[retK,resL,g0,hr,g5]
section
variable{H:Heap}{o:Ow}{M:Md}(h:MxOk H o M)
include h
theorem View_c(d:Nat){n:W}{s:Sn}{b:Nat}{w:Wn}(hc:cur M n s b w):∃H' y q,X (d+41) n_12 [P0 M.m,.string (S n)] H=some (.tuple #[.agg ⟨(viewP M w).l y⟩,.bool true],H')∧Sh H.next H' y q (viewP M w).L∧Keep0 H H':=by
 have hw:=hc.2.2.1;rw[mux_Mux_View_eq];simp only[newK_s];have k1:Keep0 H (H.new (.cells [.int .i64 0,.int .i64 0,.slice none 0 0,.int .i64 0,.int .i64 0,.bool false] t_38 false 0 false)):=Keep.new _ _;have g1:(H.new (.cells [.int .i64 0,.int .i64 0,.slice none 0 0,.int .i64 0,.int .i64 0,.bool false] t_38 false 0 false)).get H.next=some (.cells zeroS t_38 false 0 false):=by simp[zeroS]
 have n1:(H.new (.cells [.int .i64 0,.int .i64 0,.slice none 0 0,.int .i64 0,.int .i64 0,.bool false] t_38 false 0 false)).next=H.next+1:=rfl
 generalize H.new (.cells [.int .i64 0,.int .i64 0,.slice none 0 0,.int .i64 0,.int .i64 0,.bool false] t_38 false 0 false)=H1 at*;have h1:=h.new k1;rw[window_c h1 (d+39) hc];simp only[callK_s,P0,asP_s];rw[if_neg (by simp)];have wx:=h1.hW b w hw;simp only[nilP_s,ap_0];rw[show ap ⟨b,0,none⟩ 2=⟨b,2,none⟩from rfl,(ld1_s wx.get).trans (show _=some (Value.bool w.zm)from rfl)];simp only[optK_s,asB_s];obtain⟨tp1,tp2,tp3,tp4,tp5⟩:=h.wm.tp b w hw;by_cases hz:w.zm=true
 ·rw[if_pos hz,h1.l3];simp only[optK_s,asM_s,ap_1];rw[(ld1_s wx.get).trans (show _=some (Value.int .i64 w.act)from rfl)];simp only[optK_s,asI_s];obtain⟨x,hx1,hx2⟩:=tp4 w.act tp3;rw[h1.lkP w.act false,hx1];simp only[lookV_f,optK_s,P0,asP_s,nilP_s,ap_0];have px:=h1.hP _ x hx1;rw[(ld1_s px.get).trans (show _=some (P0 x.A.D.p)from rfl)];simp only[optK_s,P0,asP_s];obtain⟨y,q,H2,e2,o2,r2,m2,fy,fq,dq,k2⟩:=Screen_s (d+37) px.gr.rep px.gr.wf;rw[show X (d+40) n_23 [.pointer (some ⟨x.A.D.p,0,none⟩)] H1=_ from e2];simp only[callK_s,asA_s];have g2:=k2.get (by omega) g1;rw[show∀K,effK (.store 6) [.pointer (some ⟨H.next,0,none⟩),.agg ⟨scrL x.q.g.c y⟩] H2 K=_ from fun K=>st6 (K:=K) g2 rfl rfl rfl];have kp:Keep (fun k=>k=H.next) H2 (H2.put H.next (.cells (scrL x.q.g.c y) t_38 false 0 false)):=Keep.put _ _ _ rfl;have hv:viewP M w=x.q.g.vp:=by unfold viewP;rw[if_pos hz,hx1]
  rw[hv];refine⟨_,y,q,ret6 (l:=scrL x.q.g.c y) (by simp) rfl _,⟨Whole.keep o2 kp fun k e e'=>by have e'':k=H.next:=e';have:=fy k e;omega,r2.keep kp fun k e e'=>by have e'':k=H.next:=e';have:=fq k e;omega,m2,fun k e=>by have:=fy k e;omega,fun k e=>by have:=fq k e;omega⟩,(k1.trans k2).fresh kp fun k e=>by have e':k=H.next:=e;omega⟩
 ·rw[if_neg hz,h1.l0];simp only[optK_s,asI_s];rw[h1.l1];simp only[optK_s,asI_s];obtain⟨r1,r2⟩:=h.wm.r;obtain⟨c1,c2⟩:=h.wm.c;obtain⟨H2,A,e2,gr2,k2,fA⟩:=New_s (d+33) h1.tab.lt ⟨r1,r2⟩ (show 1≤M.cols∧M.cols≤120 by omega);rw[e2];simp only[callK_s,castT_s,castL_c,castL_n,cast0,P0,asP_s,asI_s,optK_s,List.getElem?_cons_zero,List.getElem?_cons_succ];obtain⟨y,q,H3,e3,o3,r3,m3,fy,fq,dq,k3⟩:=Screen_s (d+37) gr2.rep gr2.wf;rw[show X (d+40) n_23 [.pointer (some ⟨A.D.p,0,none⟩)] H2=_ from e3];simp only[callK_s,asA_s,newK_s];have k4:Keep0 H3 (H3.new (.cells [.int .i64 0,.int .i64 0,.slice none 0 0,.int .i64 0,.int .i64 0,.bool false] t_38 false 0 false)):=Keep.new _ _;have g4:(H3.new (.cells [.int .i64 0,.int .i64 0,.slice none 0 0,.int .i64 0,.int .i64 0,.bool false] t_38 false 0 false)).get H3.next=some (.cells zeroS t_38 false 0 false):=by simp[zeroS]
  have n4:(H3.new (.cells [.int .i64 0,.int .i64 0,.slice none 0 0,.int .i64 0,.int .i64 0,.bool false] t_38 false 0 false)).next=H3.next+1:=rfl
  generalize H3.new (.cells [.int .i64 0,.int .i64 0,.slice none 0 0,.int .i64 0,.int .i64 0,.bool false] t_38 false 0 false)=H4 at*;rw[show∀K,effK (.store 6) [.pointer (some ⟨H3.next,0,none⟩),.agg ⟨scrL (GP.new M.rows M.cols).g.c y⟩] H4 K=_ from fun K=>st6 (K:=K) g4 rfl rfl rfl];have k5:Keep0 H3 (H4.put H3.next (.cells (scrL (GP.new M.rows M.cols).g.c y) t_38 false 0 false)):=k4.fresh (Keep.put (S:=fun k=>k=H3.next) _ _ _ rfl) fun k e=>by have e':k=H3.next:=e;omega
  have g5:(H4.put H3.next (.cells (scrL (GP.new M.rows M.cols).g.c y) t_38 false 0 false)).get H3.next=some (.cells [.int .i64 (M.rows:Int),.int .i64 (M.cols:Int),y.v,.int .i64 0,.int .i64 0,.bool false] t_38 false 0 false):=by simp;rfl
  have n5:(H4.put H3.next (.cells (scrL (GP.new M.rows M.cols).g.c y) t_38 false 0 false)).next=H4.next:=rfl
  generalize H4.put H3.next (.cells (scrL (GP.new M.rows M.cols).g.c y) t_38 false 0 false)=H5 at*
  have m1:=k1.1;have m2':=k2.1;have m3':=k3.1;have m5:=k5.1;have k05:Keep0 H H5:=((k1.trans k2).trans k3).trans k5;have h5:=h.new k05;have wx5:=h5.hW b w hw;rw[(ld1_s wx5.get).trans (show _=some (P0 w.tb)from rfl)];simp only[optK_s,P0,asP_s];rw[h5.l0];simp only[optK_s,asI_s];rw[h5.l1];simp only[optK_s,asI_s];have hht:=w.t.ht_lt;obtain⟨d',hd⟩:∃d',d+40=2+(w.t.ht+(2+d'))+1+1:=⟨d+34-w.t.ht,by omega⟩;obtain⟨xa,H6,e6,w6,k6,f6⟩:=lyPlaces_s d' M.rows M.cols ⟨by omega,by omega⟩ wx5.gt wx5.tl wx5.tr (by omega);rw[show X (d+40) n_24 [.pointer (some ⟨w.tb,0,none⟩),.int .i64 (M.rows:Int),.int .i64 (M.cols:Int)] H5=some (xa.v,H6)from by rw[hd];exact e6];simp only[callK_s,asSL_k];have h6:=h5.new k6;have wx6:=h6.hW b w hw;rw[(ld1_s wx6.get).trans (show _=some (P0 w.tb)from rfl)];simp only[optK_s,P0,asP_s];obtain⟨xb,H7,e7,w7,k7,f7⟩:=lyPanes_s d' wx6.gt wx6.tl wx6.tr (by omega);rw[show X (d+40) n_25 [.pointer (some ⟨w.tb,0,none⟩)] H6=some (xb.v,H7)from by rw[hd];exact e7];simp only[callK_s,asSL_k];have m6:=k6.1;have m7:=k7.1;have k57:=k6.trans k7;have hxb:xb.n=w.t.panes.length:=by have:=(Whole.len w7).1;rw[List.length_map]at this;omega
  have hql:∀k,bl q k→k<H3.next:=fun k e=>r3.lt e
  have hyl:∀k,y.at k→k<H3.next:=fun k e=>Whole.lt o3 e
  have cv5:Cv H5 y q M.rows M.cols:=by have wf:=gr2.wf;refine⟨Whole.keep o3 k5 fun _ _ e=>e,r3.keep k5 fun _ _ e=>e,?_,fun x hx=>wf.Lw x.2 (by rw[←m3];exact List.mem_map_of_mem hx),dq⟩;rw[←List.length_map (f:=Prod.snd),m3,wf.Ln];rfl
  have vd5:Vd H5 H3.next y q M.rows M.cols 0 0 false:=⟨cv5,g5,by omega,fun e=>by have:=hql _ e;omega,fun e=>by have:=hyl _ e;omega⟩
  obtain⟨H',q',v',e',cv',hb',k',s',hv'⟩:=view_loop d h hw (x4:=H.next) (p42:=H3.next) (xa:=xa) (xb:=xb) (y:=y) (Nat.le_refl _) (by omega) (fun j e=>by have:=fy j e;omega) (vs:=zeroS) rfl (by omega) (fun e=>by have:=fy _ e;omega) (fun j e=>by
   rcases e with e|e
   ·have:=f6 j e;omega
   ·have:=f7 j e;omega) NN 0 H7 q 0 0 false (by rw[NN_eq];omega) (by omega) (vd5.keep k57 (fun _ _ e=>e) (fun _ _ e=>e) id) (w6.keep k7 fun _ _ e=>e) w7 (fun j e e'=>by
   have:=hql j e';rcases e with e|e
   ·have:=f6 j e;omega
   ·have:=f7 j e;omega) (fun j e=>by have:=fq j e;omega) ((k57.get (by omega) (k5.get (by omega) (k3.get (by omega) (k2.get (by omega) g1))))) (by omega) (fun e=>by have:=fq _ e;omega) (k05.trans k57)
  rw[show(xb.n:Int)=((w.t.panes.length:Nat):Int)by rw[hxb],show(0:Int)=((0:Nat):Int)from rfl];rw[e'];have hvp:viewP M w=v':=by rw[hv',List.drop_zero];unfold viewP;rw[if_neg hz,show q.map Prod.snd=List.replicate M.rows (List.replicate M.cols blank)from m3];rfl
  rw[hvp];exact⟨H',y,q',rfl,⟨cv'.o,cv'.r,s',fun k e=>by have:=fy k e;omega,hb'⟩,k'⟩
theorem Output_n(d:Nat){k:Int}(hk:M.P k=none)(x:Sl):X (d+1) n_10 [P0 M.m,.int .i64 k,x.v] H=some (.int .i64 3,H):=by rw[mux_Mux_Output_eq,h.l3];simp only[optK_s,asM_s];rw[h.lkP k true,hk];simp only[lk_n,optK_s,castT_s,castL_c,castL_n,cast0,asP_s,asB_s,List.getElem?_cons_zero,List.getElem?_cons_succ];rw[if_pos (by simp)]
theorem Output_x(d:Nat){k:Int}{y:Pn}(hk:M.P k=some y){x:Sl}{l:W}(hx:HV H x l)(hl:l.length≤1900000):∃H' o' A',X (d+12) n_10 [P0 M.m,.int .i64 k,x.v] H=some (.int .i64 0,H')∧MxOk H' o' {M with P:=upd M.P k (some {y with A:=A',q:=y.q.write G.doA l})}∧St H o H' o':=by
 rw[mux_Mux_Output_eq,h.l3];simp only[optK_s,asM_s];rw[h.lkP k true,hk];simp only[lookV_t,optK_s,castT_s,castL_c,castL_n,cast0,P0,asP_s,asB_s,List.getElem?_cons_zero,List.getElem?_cons_succ];rw[if_neg (by simp)];simp only[nilP_s,ap_0];have py:=h.hP k y hk;rw[(ld1_s py.get).trans (show _=some (P0 y.A.D.p)from rfl)];simp only[optK_s,P0,asP_s];obtain⟨H1,A1,e1,g1,s1⟩:=WriteA_s d h.tab py.gr hx hl;rw[show X (d+11) n_21 [.pointer (some ⟨y.A.D.p,0,none⟩),x.v] H=_ from e1];simp only[callK_s];obtain⟨o',h',st⟩:=h.grid hk g1 s1;exact⟨H1,o',A1,rfl,h',st⟩
end
theorem MxOk.lkPs{H:Heap}{o:Ow}{M:Md}(h:MxOk H o M){k:Int}{x:Pn}(hx:M.P k=some x)(ok:Bool):readD (.lookup (.int .i64) (.pointer none) ok) [.map (some M.pm),.int .i64 k] H=some (lookV (P0 x.b) true ok):=by rw[h.lkP k ok,hx]
theorem MxOk.lkSn{H:Heap}{o:Ow}{M:Md}(h:MxOk H o M){n:W}(hx:findS M.ss n=none)(ok:Bool):readD (.lookup .str (.pointer none) ok) [.map (some M.sm),.string (S n)] H=some (lookV (.pointer none) false ok):=by rw[h.lkS n ok,hx]
def tgt(M:Md)(w:Wn)(k:Int)(r:Rc):Nat×Nat:=if w.zm=true∧k=w.act then(M.rows,M.cols)else((max r.rows 1).toNat,(max r.cols 1).toNat)
def fitG(M:Md)(w:Wn)(k:Int)(r:Rc)(g:G):G:=if g.c.rows=(tgt M w k r).1∧g.c.cols=(tgt M w k r).2 then g else g.resize (tgt M w k r).1 (tgt M w k r).2
def FitR(M:Md)(w:Wn)(P P':Int→Option Pn)(l:List (Int×Rc)):Prop:=∀k,match P k with
 |none=>P' k=none
 |some x=>match l.lookup k with
  |none=>P' k=some x
  |some r=>∃A',P' k=some {x with A:=A',q:=⟨fitG M w k r x.q.g,x.q.c,x.q.w⟩}
theorem FitR.nil(M:Md)(w:Wn)(P:Int→Option Pn):FitR M w P P []:=fun k=>by
 cases h:P k with
 |none=>rfl
 |some x=>rfl
theorem FitR.cons{M:Md}{w:Wn}{P P1 P':Int→Option Pn}{k:Int}{r:Rc}{l:List (Int×Rc)}{x x1:Pn}(hx:P k=some x)(h1:P1=upd P k (some x1))(hf:∃A',x1={x with A:=A',q:=⟨fitG M w k r x.q.g,x.q.c,x.q.w⟩})(hk:l.lookup k=none)(h:FitR M w P1 P' l):FitR M w P P' ((k,r)::l):=fun j=>by
 have hj:=h j;by_cases e:j=k
 ·subst e;rw[h1,upd_same,hk]at hj;rw[hx];simp only[List.lookup,beq_self_eq_true];obtain⟨A',e'⟩:=hf;exact⟨A',by rw[←e'];exact hj⟩
 ·rw[h1,upd_ne _ _ e]at hj;have hb:(j==k)=false:=by simpa using e
  simp only[List.lookup,hb];exact hj
theorem lookup_none{l:List (Int×Rc)}{k:Int}(h:k∉l.map Prod.fst):l.lookup k=none:=by
 induction l with
 |nil=>rfl
 |cons e l ih=>
  obtain⟨a,b⟩:=e;simp only[List.map_cons,List.mem_cons,not_or]at h;have hb:(k==a)=false:=by simpa using h.1
  simp only[List.lookup,hb];exact ih h.2
theorem zip_fst{α β:Type}:∀(a:List α) (b:List β),a.length=b.length→(a.zip b).map Prod.fst=a
 |[],_,_=>rfl
 |x::a,y::b,h=>by simp only[List.zip_cons_cons,List.map_cons];rw[zip_fst a b (by simpa using h)]
 |x::a,[],h=>by simp at h
theorem tgt_ok{M:Md}(hw:Wm M){w:Wn}{k:Int}{r:Rc}(h:r.ok)(hi:r.inn (winRc M.rows M.cols)):(1≤(tgt M w k r).1∧(tgt M w k r).1≤60)∧(1≤(tgt M w k r).2∧(tgt M w k r).2≤90):=by
 obtain⟨r1,r2⟩:=hw.r;obtain⟨c1,c2⟩:=hw.c;obtain⟨o1,o2,o3,o4,_,_⟩:=h;obtain⟨i1,i2,i3,i4⟩:=hi;have e1:(winRc M.rows M.cols).row=0:=rfl;have e2:(winRc M.rows M.cols).col=0:=rfl;have e3:(winRc M.rows M.cols).rows=M.rows:=rfl;have e4:(winRc M.rows M.cols).cols=M.cols:=rfl;unfold tgt;split
 ·exact⟨⟨r1,r2⟩,c1,c2⟩
 ·simp only;omega
theorem fit_loop(d:Nat){M:Md}{b:Nat}{w:Wn}(hw:M.W b=some w){xa xb:Sl}:∀(rem:List (Int×Rc)) (m i:Nat) (H:Heap) (o:Ow) (P:Int→Option Pn),rem.length<m→(w.t.panes.zip (w.t.places (winRc M.rows M.cols))).drop i=rem→i+rem.length=w.t.panes.length→
  MxOk H o {M with P:=P}→Whole H xa ((w.t.places (winRc M.rows M.cols)).flatMap Rc.l) t_83 4→Whole H xb (w.t.panes.map (.int .i64)) t_3 1→(∀j,xa.at j∨xb.at j→o j=.z)→
  ∃H' o' P',j1a (d+40) m M.m b xa xb ((w.t.panes.length:Nat):Int) (i:Int) H=some (.tuple #[],H')∧MxOk H' o' {M with P:=P'}∧St H o H' o'∧FitR M w P P' rem:=by
 intro rem;induction rem with
 |nil=>intro m i H o P hm _ hi h wa wb hz;obtain⟨m,rfl⟩:∃m',m=m'+1:=⟨m-1,by simp at hm;omega⟩;simp only[List.length_nil]at hi;rw[j1a_s,if_neg (show¬decide ((i:Int)<((w.t.panes.length:Nat):Int))=true by rw[decide_eq_true_eq];omega)];exact⟨H,o,P,rfl,h,⟨Ex.refl _ _,Keep.refl _⟩,FitR.nil _ _ _⟩
 |cons e rem ih=>
  intro m i H o P hm hd hi h wa wb hz;simp only[List.length_cons]at hm hi;obtain⟨m,rfl⟩:∃m',m=m'+1:=⟨m-1,by omega⟩;obtain⟨k,r⟩:=e;have hzl:(w.t.panes.zip (w.t.places (winRc M.rows M.cols))).length=w.t.panes.length:=by rw[List.length_zip,AT.places_len,Nat.min_self]
  have hat:(w.t.panes.zip (w.t.places (winRc M.rows M.cols)))[i]?=some (k,r):=by have:=congrArg (fun x=>x[0]?) hd;simpa using this
  have hdr:(w.t.panes.zip (w.t.places (winRc M.rows M.cols))).drop (i+1)=rem:=by rw[←List.drop_drop,hd];rfl
  obtain⟨hk,hr⟩:=List.getElem?_zip_eq_some.1 hat;have hkm:=List.mem_of_getElem? hk;have hrm:=List.mem_of_getElem? hr;obtain⟨r1,r2⟩:=h.wm.r;obtain⟨c1,c2⟩:=h.wm.c;obtain⟨tp1,tp2,tp3,tp4,tp5⟩:=h.wm.tp b w hw;have hwin:(winRc M.rows M.cols).ok:=winRc_ok ⟨by have r2':M.rows≤60:=r2;omega,by have c2':M.cols≤90:=c2;omega⟩;obtain⟨rok,rin⟩:=w.t.places_ok hwin r hrm;have hknot:rem.lookup k=none:=by
   refine lookup_none ?_;have hf:(w.t.panes.zip (w.t.places (winRc M.rows M.cols))).map Prod.fst=w.t.panes:=zip_fst _ _ (by rw[AT.places_len]);have:((w.t.panes.zip (w.t.places (winRc M.rows M.cols))).drop i).map Prod.fst=w.t.panes.drop i:=by rw[List.map_drop,hf]
   rw[hd]at this;have hnd:=tp1.sublist (List.drop_sublist i w.t.panes);rw[←this,List.map_cons,List.nodup_cons]at hnd;exact hnd.1
  obtain⟨x,hx1,hx2⟩:=tp4 k hkm;have hx1:P k=some x:=hx1;have px:=h.hP k x hx1;have wx:=h.hW b w hw;have hxb:xb.n=w.t.panes.length:=by have:=(Whole.len wb).1;rw[List.length_map]at this;omega
  obtain⟨bb,eb,lb⟩:=lyIntAt wb hk;obtain⟨ba,ea,na,_,_,_,lrs,lcs⟩:=rc_at wa hr;have hna:xa.n=w.t.panes.length:=by rw[na,AT.places_len]
  rw[j1a_s,if_pos (show decide ((i:Int)<((w.t.panes.length:Nat):Int))=true from decide_eq_true (by omega)),eb];simp only[optK_s];rw[if_pos (show(0:Int)≤(i:Int)∧(i:Int)<(xb.n:Int)by rw[hxb];omega),lb];simp only[optK_s,asI_s];rw[ea];simp only[optK_s];rw[if_pos (show(0:Int)≤(i:Int)∧(i:Int)<(xa.n:Int)by rw[hna];omega),lrs];simp only[optK_s,asI_s];rw[if_pos (show(0:Int)≤(i:Int)∧(i:Int)<(xa.n:Int)by rw[hna];omega),lcs];simp only[optK_s,asI_s];rw[(ld1_s wx.get).trans (show _=some (Value.bool w.zm)from rfl)];simp only[optK_s,asB_s];have tok':(1≤(tgt M w k r).1∧(tgt M w k r).1≤60)∧(1≤(tgt M w k r).2∧(tgt M w k r).2≤90):=tgt_ok (M:={M with P:=P}) (w:=w) (k:=k) h.wm rok rin;have main:∃H' o' P',j2f (d+40) m M.m b xa k (((tgt M w k r).1:Nat):Int) (((tgt M w k r).2:Nat):Int) xb ((w.t.panes.length:Nat):Int) (i:Int) H=some (.tuple #[],H')∧MxOk H' o' {M with P:=P'}∧St H o H' o'∧FitR M w P P' ((k,r)::rem):=by
   rw[j2f_eq,h.l3];simp only[optK_s,asM_s];rw[h.lkPs hx1 false];simp only[lookV_f,optK_s,P0,asP_s,nilP_s,ap_0];rw[(ld1_s px.get).trans (show _=some (P0 x.A.D.p)from rfl)];simp only[optK_s,P0,asP_s];obtain⟨ys,ps,H1,e1,os,rs',ms,fy,fp,_,k1⟩:=Screen_s (d+37) px.gr.rep px.gr.wf;rw[show X (d+40) n_23 [.pointer (some ⟨x.A.D.p,0,none⟩)] H=_ from e1];simp only[callK_s,asA_s,newK_s];have k2:Keep0 H1 (H1.new (.cells [.int .i64 0,.int .i64 0,.slice none 0 0,.int .i64 0,.int .i64 0,.bool false] t_38 false 0 false)):=Keep.new _ _;have g2:(H1.new (.cells [.int .i64 0,.int .i64 0,.slice none 0 0,.int .i64 0,.int .i64 0,.bool false] t_38 false 0 false)).get H1.next=some (.cells [.int .i64 0,.int .i64 0,.slice none 0 0,.int .i64 0,.int .i64 0,.bool false] t_38 false 0 false):=by simp
   have n2:(H1.new (.cells [.int .i64 0,.int .i64 0,.slice none 0 0,.int .i64 0,.int .i64 0,.bool false] t_38 false 0 false)).next=H1.next+1:=rfl
   generalize H1.new (.cells [.int .i64 0,.int .i64 0,.slice none 0 0,.int .i64 0,.int .i64 0,.bool false] t_38 false 0 false)=H2 at*;rw[show∀K,effK (.store 6) [.pointer (some ⟨H1.next,0,none⟩),.agg ⟨scrL x.q.g.c ys⟩] H2 K=_ from fun K=>st6 (K:=K) g2 rfl rfl rfl];have k3:Keep0 H1 (H2.put H1.next (.cells (scrL x.q.g.c ys) t_38 false 0 false)):=k2.fresh (Keep.put (S:=fun k=>k=H1.next) _ _ _ rfl) fun k e=>by have e':k=H1.next:=e;omega
   have g3:(H2.put H1.next (.cells (scrL x.q.g.c ys) t_38 false 0 false)).get H1.next=some (.cells (scrL x.q.g.c ys) t_38 false 0 false):=by simp
   generalize H2.put H1.next (.cells (scrL x.q.g.c ys) t_38 false 0 false)=H3 at*
   have k13:Keep0 H H3:=k1.trans k3;have h3:=h.new k13;have px3:=h3.hP k x hx1;have wa3:=wa.keep k13 fun _ _ e=>e;have wb3:=wb.keep k13 fun _ _ e=>e;rw[(ld1_s g3).trans (show _=some (Value.int .i64 (x.q.g.c.rows:Int))from rfl)];simp only[optK_s,asI_s];have go:∀(H4:Heap) (o4:Ow) (x4:Pn),MxOk H4 o4 {M with P:=upd P k (some x4)}→St H3 o H4 o4→(∃A',x4={x with A:=A',q:=⟨fitG M w k r x.q.g,x.q.c,x.q.w⟩})→∃H' o' P',j2g (d+40) m M.m b xa xb ((w.t.panes.length:Nat):Int) (i:Int) H4=some (.tuple #[],H')∧MxOk H' o' {M with P:=P'}∧St H o H' o'∧FitR M w P P' ((k,r)::rem):=fun H4 o4 x4 h4 s4 hx4=>by
    rw[j2g_eq,wi (by omega)];have ozz:∀j,xa.at j∨xb.at j→o j=.z:=hz;have hlt3:∀j,xa.at j∨xb.at j→j<H3.next:=fun j e=>by
     rcases e with e|e
     ·exact Whole.lt wa3 e
     ·exact Whole.lt wb3 e
    obtain⟨H',o',P',e',h',s',f'⟩:=ih m (i+1) H4 o4 (upd P k (some x4)) (by omega) hdr (by omega) h4 (wa3.keep s4.kp fun j e e'=>e' (ozz j (.inl e))) (wb3.keep s4.kp fun j e e'=>e' (ozz j (.inr e))) (fun j e=>(s4.ex j (hlt3 j e)).trans (ozz j e));exact⟨H',o',P',e',h',((St.new k13).trans s4).trans s',FitR.cons hx1 rfl hx4 hknot f'⟩
   have rsz:¬(x.q.g.c.rows=(tgt M w k r).1∧x.q.g.c.cols=(tgt M w k r).2)→∃H' o' P',j1b (d+40) m M.m b xa (((tgt M w k r).1:Nat):Int) (((tgt M w k r).2:Nat):Int) (some ⟨x.A.D.p,0,none⟩) xb ((w.t.panes.length:Nat):Int) (i:Int) true H3=some (.tuple #[],H')∧MxOk H' o' {M with P:=P'}∧St H o H' o'∧FitR M w P P' ((k,r)::rem):=fun hne=>by rw[j1b_eq,if_pos rfl];obtain⟨H4,D4,e4,r4,s4⟩:=resize_s (d+33) px3.gr.rep px3.gr.wf tok'.1 (show 1≤(tgt M w k r).2∧(tgt M w k r).2≤120 by omega);rw[show X (d+40) n_33 [.pointer (some ⟨x.A.D.p,0,none⟩),.int .i64 (((tgt M w k r).1:Nat):Int),.int .i64 (((tgt M w k r).2:Nat):Int)] H3=_ from e4];simp only[callK_s,asI_s];obtain⟨gr4,st4⟩:=px3.gr.step r4 (px3.gr.wf.resize tok'.1 (show 1≤(tgt M w k r).2∧(tgt M w k r).2≤120 by omega)) s4 h3.tab.lt;obtain⟨o4,h4,s5⟩:=h3.grid hx1 gr4 st4;exact go H4 o4 _ h4 s5 ⟨_,by unfold fitG;rw[if_neg hne]⟩
   by_cases hr1:x.q.g.c.rows=(tgt M w k r).1
   ·rw[if_neg (show¬(!decide ((x.q.g.c.rows:Int)=(((tgt M w k r).1:Nat):Int)))=true by simp[hr1]),(ld1_s g3).trans (show _=some (Value.int .i64 (x.q.g.c.cols:Int))from rfl)];simp only[optK_s,asI_s];by_cases hc1:x.q.g.c.cols=(tgt M w k r).2
    ·rw[show(!decide ((x.q.g.c.cols:Int)=(((tgt M w k r).2:Nat):Int)))=false by simp[hc1],j1b_eq,if_neg (by simp)];have hP:upd P k (some x)=P:=by
      funext j
      by_cases e:j=k
      ·rw[e,upd_same,hx1]
      ·rw[upd_ne _ _ e]
     refine go H3 o x (by rw[hP];exact h3) ⟨Ex.refl _ _,Keep.refl _⟩ ⟨x.A,?_⟩;unfold fitG;rw[if_pos ⟨hr1,hc1⟩]
    ·rw[show(!decide ((x.q.g.c.cols:Int)=(((tgt M w k r).2:Nat):Int)))=true by simp;omega];exact rsz fun e=>hc1 e.2
   ·rw[if_pos (show(!decide ((x.q.g.c.rows:Int)=(((tgt M w k r).1:Nat):Int)))=true by simp;omega)];exact rsz fun e=>hr1 e.1
  have hm1:(if r.rows<1 then 1 else r.rows)=(((max r.rows 1).toNat:Nat):Int):=by split<;>omega
  have hm2:(if r.cols<1 then 1 else r.cols)=(((max r.cols 1).toNat:Nat):Int):=by split<;>omega
  rw[hm1,hm2];by_cases hzm:w.zm=true
  ·rw[if_pos hzm,(ld1_s wx.get).trans (show _=some (Value.int .i64 w.act)from rfl)];simp only[optK_s,asI_s];rw[j2e_eq];by_cases hka:k=w.act
   ·rw[if_pos (show decide (k=w.act)=true from decide_eq_true hka),h.l0];simp only[optK_s,asI_s];rw[h.l1];simp only[optK_s,asI_s];have e0:tgt M w k r=(M.rows,M.cols):=by unfold tgt;rw[if_pos ⟨hzm,hka⟩]
    rw[e0]at main;exact main
   ·rw[if_neg (show¬decide (k=w.act)=true by simpa using hka)];have e0:tgt M w k r=((max r.rows 1).toNat,(max r.cols 1).toNat):=by unfold tgt;rw[if_neg fun e=>hka e.2]
    rw[e0]at main;exact main
  ·rw[if_neg hzm,j2e_eq,if_neg (by simp)];have e0:tgt M w k r=((max r.rows 1).toNat,(max r.cols 1).toNat):=by unfold tgt;rw[if_neg fun e=>hzm e.1]
   rw[e0]at main;exact main
theorem fit_x(d:Nat){H:Heap}{o:Ow}{M:Md}(h:MxOk H o M){b:Nat}{w:Wn}(hw:M.W b=some w):∃H' o' P',X (d+41) n_17 [P0 M.m,P0 b] H=some (.tuple #[],H')∧MxOk H' o' {M with P:=P'}∧St H o H' o'∧FitR M w M.P P' (w.t.panes.zip (w.t.places (winRc M.rows M.cols))):=by
 have wx:=h.hW b w hw;obtain⟨r1,r2⟩:=h.wm.r;obtain⟨c1,c2⟩:=h.wm.c;obtain⟨tp1,tp2,tp3,tp4,tp5⟩:=h.wm.tp b w hw;rw[mux_Mux_fit_eq,(ld1_s wx.get).trans (show _=some (P0 w.tb)from rfl)];simp only[optK_s,P0,asP_s];rw[h.l0];simp only[optK_s,asI_s];rw[h.l1];simp only[optK_s,asI_s];have hht:=w.t.ht_lt;obtain⟨d',hd⟩:∃d',d+40=2+(w.t.ht+(2+d'))+1+1:=⟨d+34-w.t.ht,by omega⟩;obtain⟨xa,H1,e1,w1,k1,f1⟩:=lyPlaces_s d' M.rows M.cols ⟨by omega,by omega⟩ wx.gt wx.tl wx.tr (by omega);rw[show X (d+40) n_24 [.pointer (some ⟨w.tb,0,none⟩),.int .i64 (M.rows:Int),.int .i64 (M.cols:Int)] H=some (xa.v,H1)from by rw[hd];exact e1];simp only[callK_s,asSL_k];have h1:=h.new k1;have wx1:=h1.hW b w hw;rw[(ld1_s wx1.get).trans (show _=some (P0 w.tb)from rfl)];simp only[optK_s,P0,asP_s];obtain⟨xb,H2,e2,w2,k2,f2⟩:=lyPanes_s d' wx1.gt wx1.tl wx1.tr (by omega);rw[show X (d+40) n_25 [.pointer (some ⟨w.tb,0,none⟩)] H1=some (xb.v,H2)from by rw[hd];exact e2];simp only[callK_s,asSL_k];have hxb:xb.n=w.t.panes.length:=by have:=(Whole.len w2).1;rw[List.length_map]at this;omega
 have m1:=k1.1;obtain⟨H',o',P',e',h',s',f'⟩:=fit_loop d hw (xa:=xa) (xb:=xb) (w.t.panes.zip (w.t.places (winRc M.rows M.cols))) NN 0 H2 o M.P (by rw[NN_eq,List.length_zip];omega) rfl (by rw[List.length_zip,AT.places_len];omega) (h1.new k2) (w1.keep k2 fun _ _ e=>e) w2 (fun j e=>by
  rcases e with e|e
  ·exact h.oz j (f1 j e)
  ·exact h.oz j (by have:=f2 j e;omega))
 rw[show(xb.n:Int)=((w.t.panes.length:Nat):Int)by rw[hxb],show(0:Int)=((0:Nat):Int)from rfl,e'];exact⟨H',o',P',rfl,h',(St.new (k1.trans k2)).trans s',f'⟩
theorem make_s(d r c k:Nat)(hr:1≤r∧r≤60)(hc:1≤c∧c≤120)(hk:k≤1000000){H:Heap}(h4:3<H.next){m sm pm:Nat}{bf:Value}{es:List (Value×Value×Nat)}{clk:Nat}(hm:H.get m=some (.cells [.int .i64 (r:Int),.int .i64 (c:Int),.map (some sm),.map (some pm),.int .i64 (k:Int),bf] t_50 false 0 false))(hml:m<H.next)(hpm:H.get pm=some (.map es clk))(hpml:pm<H.next)(hne:m≠pm)(hf:mapFind (.int .i64) (.int .i64 (k:Int)) es 0=some none):∃p A H',X (d+8) n_20 [P0 m] H=some (.tuple #[],H')∧H'.get m=some (.cells [.int .i64 (r:Int),.int .i64 (c:Int),.map (some sm),.map (some pm),.int .i64 ((k+1:Nat):Int),bf] t_50 false 0 false)∧H'.get pm=some (.map (es++[(.int .i64 (k:Int),P0 p,clk)]) (clk+1))∧H'.get p=some (.cells [P0 A.D.p,Sl.nil.v] t_72 false 0 false)∧H.next≤p∧p<H'.next∧Gr H' A (GP.new r c)∧(∀k,A.foot k→H.next≤k∧k≠p)∧Keep (fun k=>k=m∨k=pm) H H':=by
 rw[mux_Mux_make_eq,(ld1_s hm).trans (show _=some (Value.int .i64 (r:Int))from rfl)];simp only[optK_s,asI_s];rw[(ld1_s hm).trans (show _=some (Value.int .i64 (c:Int))from rfl)];simp only[optK_s,asI_s];obtain⟨H1,A,e1,rep,k1,ff⟩:=New_s d h4 hr hc;rw[e1];simp only[callK_s,castT_s,castL_c,castL_n,cast0,P0,asP_s,asI_s,optK_s,List.getElem?_cons_zero,List.getElem?_cons_succ];have n1:=k1.1;have hm1:=k1.get hml hm;have l3:=(ld1_s (off:=3) hm1).trans (show _=some (Value.map (some pm))from rfl);have l4:=(ld1_s (off:=4) hm1).trans (show _=some (Value.int .i64 (k:Int))from rfl);rw[l3];simp only[optK_s,asM_s];rw[l4];simp only[optK_s,asI_s,newK_s];have k2:Keep0 H1 (H1.new (.cells [.pointer (some ⟨A.D.p,0,none⟩),.slice none 0 0] t_72 false 0 false)):=Keep.new _ _;have g2:(H1.new (.cells [.pointer (some ⟨A.D.p,0,none⟩),.slice none 0 0] t_72 false 0 false)).get H1.next=some (.cells [P0 A.D.p,Sl.nil.v] t_72 false 0 false):=by simp
 have n2:(H1.new (.cells [.pointer (some ⟨A.D.p,0,none⟩),.slice none 0 0] t_72 false 0 false)).next=H1.next+1:=by simp
 generalize H1.new (.cells [.pointer (some ⟨A.D.p,0,none⟩),.slice none 0 0] t_72 false 0 false)=H2 at*;have hm2:=k2.get (by omega) hm1;have hpm2:=k2.get (by omega) (k1.get hpml hpm);have eu:∀K,effK (.mapE (.upd (.int .i64))) [.map (some pm),.int .i64 (k:Int),.pointer (some ⟨H1.next,0,none⟩)] H2 K=K (.tuple #[]) (H2.put pm (.map (es++[(.int .i64 (k:Int),P0 H1.next,clk)]) (clk+1))):=fun K=>by simp only[effK,mapD,isKey,decide_true,if_true,Heap.ents,hpm2,hf,optK_s]
 rw[eu];have k3:Keep (fun k=>k=pm) H2 (H2.put pm (.map (es++[(.int .i64 (k:Int),P0 H1.next,clk)]) (clk+1))):=Keep.put _ _ _ rfl;have g3:(H2.put pm (.map (es++[(.int .i64 (k:Int),P0 H1.next,clk)]) (clk+1))).get pm=some (.map (es++[(.int .i64 (k:Int),P0 H1.next,clk)]) (clk+1)):=by simp
 generalize H2.put pm (.map (es++[(.int .i64 (k:Int),P0 H1.next,clk)]) (clk+1))=H3 at*;have n3:=k3.1;have hm3:=(k3.2 m (by omega) hne).trans hm2;have r3:∀(Hx:Heap),Hx.get m=some (.cells [.int .i64 (r:Int),.int .i64 (c:Int),.map (some sm),.map (some pm),.int .i64 (k:Int),bf] t_50 false 0 false)→readD (.load 1 false) [.pointer (some ⟨m,3,none⟩)] Hx=some (Value.map (some pm)):=fun Hx h=>rd1' ((ld1_s h).trans rfl);have r4:∀(Hx:Heap),Hx.get m=some (.cells [.int .i64 (r:Int),.int .i64 (c:Int),.map (some sm),.map (some pm),.int .i64 (k:Int),bf] t_50 false 0 false)→readD (.load 1 false) [.pointer (some ⟨m,4,none⟩)] Hx=some (Value.int .i64 (k:Int)):=fun Hx h=>rd1' ((ld1_s h).trans rfl);rw[show rdsOk _ _=true from by simp only[rdsOk,Bool.and_true];rw[show 1+1-0=2 from rfl,rdOk_2,rdOk_2,rdAt_s rfl (r4 _ hm1) (same_int _ _),rdAt_s rfl (r4 _ hm2) (same_int _ _),rdAt_s rfl (r3 _ hm1) (by simp[same,same0]),rdAt_s rfl (r3 _ hm2) (by simp[same,same0])];rfl];simp only[chk_s];rw[(ld1_s hm3).trans (show _=some (Value.int .i64 (k:Int))from rfl)];simp only[optK_s,asI_s];rw[wi (by omega),(st1_s (v:=.int .i64 ((k+1:Nat):Int)) hm3 (by show 4<6;omega) (by omega)).trans (show _=some (H3.put m (.cells [.int .i64 (r:Int),.int .i64 (c:Int),.map (some sm),.map (some pm),.int .i64 ((k+1:Nat):Int),bf] t_50 false 0 false))from rfl)];simp only[optK_s];have k4:Keep (fun k=>k=m) H3 (H3.put m (.cells [.int .i64 (r:Int),.int .i64 (c:Int),.map (some sm),.map (some pm),.int .i64 ((k+1:Nat):Int),bf] t_50 false 0 false)):=Keep.put _ _ _ rfl;have g4:(H3.put m (.cells [.int .i64 (r:Int),.int .i64 (c:Int),.map (some sm),.map (some pm),.int .i64 ((k+1:Nat):Int),bf] t_50 false 0 false)).get m=some (.cells [.int .i64 (r:Int),.int .i64 (c:Int),.map (some sm),.map (some pm),.int .i64 ((k+1:Nat):Int),bf] t_50 false 0 false):=by simp
 generalize H3.put m (.cells [.int .i64 (r:Int),.int .i64 (c:Int),.map (some sm),.map (some pm),.int .i64 ((k+1:Nat):Int),bf] t_50 false 0 false)=H4 at*;have n4:=k4.1;have kk:Keep (fun k=>k=m∨k=pm) H2 H4:=(k3.mono (T:=fun k=>k=m∨k=pm) fun _ _ e=>.inr e).trans k4 fun _ _ e=>.inl e;have rep2:=rep.keep k2 fun _ _ e=>e;refine⟨H1.next,A,H4,rfl,g4,(k4.2 pm (by omega) (Ne.symm hne)).trans g3,(kk.2 H1.next (by omega) (by omega)).trans g2,by omega,by omega,rep2.keep kk fun j e e'=>?_,fun j e=>⟨ff j e,?_⟩,((k1.trans k2).to (S:=fun k=>k=m∨k=pm)).trans kk fun _ _ e=>e⟩
 ·have:=ff j e;omega
 ·have:=rep.lt e;omega
theorem New5_s(d r c:Nat)(hr:1≤r∧r≤60)(hc:1≤c∧c≤120){H:Heap}(h4:3<H.next):∃m sm pm H',X (d+8) n_5 [.int .i64 (r:Int),.int .i64 (c:Int)] H=some (.tuple ⟨[P0 m,.int .i64 0]⟩,H')∧H'.get m=some (.cells [.int .i64 (r:Int),.int .i64 (c:Int),.map (some sm),.map (some pm),.int .i64 0,.slice none 0 0] t_50 false 0 false)∧H'.get sm=some (.map [] 0)∧H'.get pm=some (.map [] 0)∧H.next≤sm∧sm<pm∧pm<m∧m<H'.next∧Keep0 H H':=by
 rw[mux_New_eq];obtain⟨H1,A,e1,_,k1,_⟩:=New_s d h4 hr hc;rw[e1];simp only[callK_s,castT_s,castL_c,castL_n,cast0,P0,asP_s,asI_s,optK_s,List.getElem?_cons_zero,List.getElem?_cons_succ];rw[if_neg (by decide)];have emk:∀(Hx:Heap) (K:Value→Heap→Res),effK (.mapE .mk) [] Hx K=K (.map (some Hx.next)) (Hx.new (.map [] 0)):=fun _ _=>rfl;rw[emk];simp only[asM_s];have k2:Keep0 H1 (H1.new (.map [] 0)):=Keep.new _ _;have g2:(H1.new (.map [] 0)).get H1.next=some (.map [] 0):=by simp
 have n2:(H1.new (.map [] 0)).next=H1.next+1:=by simp
 generalize H1.new (.map [] 0)=H2 at*;rw[emk];simp only[asM_s,newK_s];have k3:Keep0 H2 (H2.new (.map [] 0)):=Keep.new _ _;have g3:(H2.new (.map [] 0)).get H2.next=some (.map [] 0):=by simp
 have n3:(H2.new (.map [] 0)).next=H2.next+1:=by simp
 generalize H2.new (.map [] 0)=H3 at*;have n1:=k1.1;have k4:Keep0 H3 (H3.new (.cells [.int .i64 (r:Int),.int .i64 (c:Int),.map (some H1.next),.map (some H2.next),.int .i64 0,.slice none 0 0] t_50 false 0 false)):=Keep.new _ _;exact⟨H3.next,H1.next,H2.next,_,rfl,by simp,k4.get (by omega) (k3.get (by omega) g2),k4.get (by omega) g3,by omega,by omega,by omega,by simp,((k1.trans k2).trans k3).trans k4⟩
theorem FitR.out{M:Md}{w:Wn}{P P':Int→Option Pn}{l:List (Int×Rc)}(h:FitR M w P P' l){k:Int}(hk:k∉l.map Prod.fst):P' k=P k:=by
 have:=h k;cases e:P k with
 |none=>rw[e]at this;exact this
 |some x=>rw[e]at this;simp only[lookup_none hk]at this;exact this
theorem FitR.inn{M:Md}{w:Wn}{P P':Int→Option Pn}{l:List (Int×Rc)}(h:FitR M w P P' l){k:Int}{x:Pn}{r:Rc}(hx:P k=some x)(hl:l.lookup k=some r):∃A',P' k=some {x with A:=A',q:=⟨fitG M w k r x.q.g,x.q.c,x.q.w⟩}:=by have:=h k;rw[hx]at this;simp only[hl]at this;exact this
theorem Wm.fresh{M:Md}(h:Wm M){b:Nat}(hb:M.W b=none){x:Pn}(hx:x.win=b){tb nd sb:Nat}(hn:M.next<100):Wm {M with next:=M.next+1,W:=updN M.W b (some ⟨tb,.leaf nd (M.next:Int),(M.next:Int),false,sb⟩),P:=upd M.P (M.next:Int) (some x)}:=by
 have hP:M.P (M.next:Int)=none:=by
  cases e:M.P (M.next:Int)with
  |none=>rfl
  |some y=>have:=(h.nx _ y e).2;omega
 refine⟨h.r,h.c,fun k y hy=>?_,h.nn,h.sb,h.sl,fun s hs=>?_,fun c v hc=>?_,h.nl⟩
 ·by_cases e:k=(M.next:Int)
  ·subst e;refine⟨by omega,?_⟩;show(M.next:Int)<((M.next+1:Nat):Int);omega
  ·obtain⟨a1,a2⟩:=h.nx k y ((upd_ne _ _ e).symm.trans hy);refine⟨a1,?_⟩;show k<((M.next+1:Nat):Int);omega
 ·obtain⟨a1,a2,a3,a4⟩:=h.wb s hs;refine⟨a1,a2,a3,fun c hc=>?_⟩;obtain⟨v,v1,v2⟩:=a4 c hc;have hne:c≠b:=fun e=>by rw[e,hb]at v1;cases v1
  exact⟨v,(updN_ne _ _ hne).trans v1,v2⟩
 ·by_cases e:c=b
  ·subst e;have hv:=(updN_same M.W c (some ⟨tb,.leaf nd (M.next:Int),(M.next:Int),false,sb⟩)).symm.trans hc;cases hv;refine⟨by simp[AT.panes],by simp[AT.panes],by simp[AT.panes],fun p hp=>?_,?_⟩
   ·simp only[AT.panes,List.mem_singleton]at hp;subst hp;exact⟨x,upd_same _ _ _,hx⟩
   ·exact⟨by omega,by show(M.next:Int)<100;omega⟩
  ·obtain⟨t1,t2,t3,t4,t5⟩:=h.tp c v ((updN_ne _ _ e).symm.trans hc);refine⟨t1,t2,t3,fun p hp=>?_,t5⟩;obtain⟨z,z1,z2⟩:=t4 p hp;have hne:p≠(M.next:Int):=fun e=>by rw[e,hP]at z1;cases z1
   exact⟨z,(upd_ne _ _ hne).trans z1,z2⟩
theorem MxOk.fresh{H H':Heap}{o:Ow}{M:Md}(h:MxOk H o M)(hn:M.next<100){nd tb b p:Nat}{A:GA}(sb:Nat)(gm:H'.get M.m=some (.cells [.int .i64 (M.rows:Int),.int .i64 (M.cols:Int),.map (some M.sm),.map (some M.pm),.int .i64 ((M.next+1:Nat):Int),M.bs.v] t_50 false 0 false))(gp:∃es clk,PMap es M.P∧H'.get M.pm=some (.map (es++[(keyI (M.next:Int),P0 p,clk)]) (clk+1)))(gb:H'.get b=some (.cells [P0 tb,.int .i64 (M.next:Int),.bool false] t_65 false 0 false))(gt:H'.get tb=some (.cells [P0 nd] t_114 false 0 false))(gn:H'.get nd=some (.cells (ndC (M.next:Int) none none false 0) t_105 false 0 false))(gpp:H'.get p=some (.cells [P0 A.D.p,Sl.nil.v] t_72 false 0 false))(gr:Gr H' A (GP.new M.rows M.cols))(od:H.next≤nd∧nd<tb∧tb<b∧b<p∧p<H'.next)(hA:∀k,A.foot k→b<k∧k≠p)(hk:Keep (fun k=>k=M.m∨k=M.pm) H H'):∃o',MxOk H' o' {M with next:=M.next+1,W:=updN M.W b (some ⟨tb,.leaf nd (M.next:Int),(M.next:Int),false,sb⟩),P:=upd M.P (M.next:Int) (some ⟨p,A,GP.new M.rows M.cols,Sl.nil,[],b⟩)}∧St H o H' o':=by
 have hk':KT o (fun t=>t=.m∨t=.pm) H H':=hk.mono fun j _ e=>by
  rcases e with e|e
  ·rw[e];exact .inl h.om
  ·rw[e];exact .inr h.op
 have hbW:M.W b=none:=by
  cases e:M.W b with
  |none=>rfl
  |some w=>have:=(h.hW b w e).lt;omega
 have hPn:M.P (M.next:Int)=none:=by
  cases e:M.P (M.next:Int)with
  |none=>rfl
  |some y=>have:=(h.wm.nx _ y e).2;omega
 let o1:Ow:=tagS (tagS (tagS (tagS (tagS o A.foot (.g (M.next:Int))) (· =p) (.p (M.next:Int))) (· =b) (.w b)) (· =tb) (.tb b)) (· =nd) (.nd b)
 have q1:o1 nd=.nd b:=tagS_in rfl;have q2:o1 tb=.tb b:=(tagS_out (by omega)).trans (tagS_in rfl);have q3:o1 b=.w b:=(tagS_out (by omega)).trans ((tagS_out (by omega)).trans (tagS_in rfl));have q4:o1 p=.p (M.next:Int):=(tagS_out (by omega)).trans ((tagS_out (by omega)).trans ((tagS_out (by omega)).trans (tagS_in rfl)));have q5:∀j,A.foot j→o1 j=.g (M.next:Int):=fun j e=>by have:=hA j e;exact(tagS_out (by omega)).trans ((tagS_out (by omega)).trans ((tagS_out (by omega)).trans ((tagS_out (by omega)).trans (tagS_in e))))
 have he:Ex H o o1:=fun j hj=>(tagS_out (by omega)).trans ((tagS_out (by omega)).trans ((tagS_out (by omega)).trans ((tagS_out (by omega)).trans (tagS_out fun e=>by have:=hA j e;omega))));have nz:¬(fun t=>t=Tg.m∨t=Tg.pm) Tg.z:=by simp
 refine⟨o1,⟨gm,h.klm hk',(he _ h.lm).trans h.om,h.kgs hk' (by simp),h.kls hk',(he _ h.ls).trans h.os,?_,h.klp hk',(he _ h.lp).trans h.op,h.kbf hk' (by simp),h.kob he,fun s hs=>(h.hS s hs).keep hk' he (by simp) (by simp),fun c v hv=>?_,fun j y hy=>?_,h.wm.fresh hbW rfl hn,h.ktab hk' nz,h.ko5 he,fun j hj=>?_⟩,St.of hk' he nz⟩
 ·obtain⟨es,clk,h1,h2⟩:=gp;exact⟨_,_,h2,h1.add hPn ⟨p,A,GP.new M.rows M.cols,Sl.nil,[],b⟩ clk⟩
 ·by_cases e:c=b
  ·subst e;have hv':=(updN_same M.W c (some ⟨tb,.leaf nd (M.next:Int),(M.next:Int),false,sb⟩)).symm.trans hv;cases hv';refine⟨gb,by omega,q3,gt,by show tb<_;omega,q2,⟨by omega,false,0,gn⟩,fun j hj=>?_,by simp[AT.dom]⟩;simp only[AT.dom,List.mem_singleton]at hj;rw[hj];exact q1
  ·have hv':M.W c=some v:=(updN_ne _ _ e).symm.trans hv;exact(h.hW c v hv').keep hk' he (by simp) (by simp) (by simp)
 ·by_cases e:j=(M.next:Int)
  ·subst e;have hy':=(upd_same M.P (M.next:Int) (some ⟨p,A,GP.new M.rows M.cols,Sl.nil,[],b⟩)).symm.trans hy;cases hy';exact⟨gpp,by show p<_;omega,q4,gr,q5,Tl.nil _,fun j e=>absurd e Sl.at_nil,by simp⟩
  ·have hy':M.P j=some y:=(upd_ne _ _ e).symm.trans hy;exact(h.hP j y hy').keep hk' he (by simp) (by simp) (by simp)
 ·have hn':=hk.1;refine(tagS_out (by omega)).trans ((tagS_out (by omega)).trans ((tagS_out (by omega)).trans ((tagS_out (by omega)).trans ((tagS_out fun e=>by have:=gr.lt e;omega).trans (h.oz j (by omega))))))
theorem fresh_x(d:Nat){H:Heap}{o:Ow}{M:Md}(h:MxOk H o M)(hn:M.next<100)(sb:Nat):∃b tb nd x H' o',X (d+42) n_15 [P0 M.m] H=some (P0 b,H')∧MxOk H' o' {M with next:=M.next+1,W:=updN M.W b (some ⟨tb,.leaf nd (M.next:Int),(M.next:Int),false,sb⟩),P:=upd M.P (M.next:Int) (some x)}∧x.q=GP.new M.rows M.cols∧x.qu=[]∧x.win=b∧St H o H' o'∧H.next≤b:=by
 obtain⟨r1,r2⟩:=h.wm.r;obtain⟨c1,c2⟩:=h.wm.c;rw[mux_Mux_fresh_eq,h.l4];simp only[optK_s,asI_s];rw[layout_New_eq];simp only[newK_s];have k1:Keep0 H (H.new (.cells [.int .i64 (M.next:Int),.pointer none,.pointer none,.bool false,.int .i64 0] t_105 false 0 false)):=Keep.new _ _;have g1:(H.new (.cells [.int .i64 (M.next:Int),.pointer none,.pointer none,.bool false,.int .i64 0] t_105 false 0 false)).get H.next=some (.cells (ndC (M.next:Int) none none false 0) t_105 false 0 false):=by simp[ndC]
 have n1:(H.new (.cells [.int .i64 (M.next:Int),.pointer none,.pointer none,.bool false,.int .i64 0] t_105 false 0 false)).next=H.next+1:=rfl
 generalize H.new (.cells [.int .i64 (M.next:Int),.pointer none,.pointer none,.bool false,.int .i64 0] t_105 false 0 false)=H1 at*;have k2:Keep0 H1 (H1.new (.cells [P0 H.next] t_114 false 0 false)):=Keep.new _ _;have g2:(H1.new (.cells [P0 H.next] t_114 false 0 false)).get H1.next=some (.cells [P0 H.next] t_114 false 0 false):=by simp
 have n2:(H1.new (.cells [P0 H.next] t_114 false 0 false)).next=H1.next+1:=rfl
 generalize H1.new (.cells [P0 H.next] t_114 false 0 false)=H2 at*;simp only[callK_s,P0,asP_s];have k02:=k1.trans k2;have h2:=h.new k02;rw[h2.l4];simp only[optK_s,asI_s];have k3:Keep0 H2 (H2.new (.cells [.pointer (some ⟨H1.next,0,none⟩),.int .i64 (M.next:Int),.bool false] t_65 false 0 false)):=Keep.new _ _;have g3:(H2.new (.cells [.pointer (some ⟨H1.next,0,none⟩),.int .i64 (M.next:Int),.bool false] t_65 false 0 false)).get H2.next=some (.cells [P0 H1.next,.int .i64 (M.next:Int),.bool false] t_65 false 0 false):=by simp
 have n3:(H2.new (.cells [.pointer (some ⟨H1.next,0,none⟩),.int .i64 (M.next:Int),.bool false] t_65 false 0 false)).next=H2.next+1:=rfl
 generalize H2.new (.cells [.pointer (some ⟨H1.next,0,none⟩),.int .i64 (M.next:Int),.bool false] t_65 false 0 false)=H3 at*;have k03:=k02.trans k3;have h3:=h.new k03;rw[show rdsOk _ _=true from by simp only[rdsOk,Bool.and_true];rw[show 1+1-0=2 from rfl,rdOk_2,rdAt_s rfl (show readD (.load 1 false) [.pointer (some ⟨M.m,4,none⟩)] H=_ from h.l4) (same_int _ _),rdAt_s rfl (show readD (.load 1 false) [.pointer (some ⟨M.m,4,none⟩)] H2=_ from h2.l4) (same_int _ _)];rfl];simp only[chk_s];obtain⟨es,clk,gpm,hpm⟩:=h3.gp;have hPn:M.P (M.next:Int)=none:=by
  cases e:M.P (M.next:Int)with
  |none=>rfl
  |some y=>have:=(h.wm.nx _ y e).2;omega
 have hmp:M.m≠M.pm:=fun e=>by have:=h.om;rw[e,h.op]at this;cases this
 obtain⟨p,A,H4,e4,a1,a2,a3,a4,a5,a6,a7,a8⟩:=make_s (d+33) M.rows M.cols M.next ⟨r1,r2⟩ (show 1≤M.cols∧M.cols≤120 by omega) (by omega) h3.tab.lt h3.gm h3.lm gpm h3.lp hmp (hpm.fnone hPn)
 rw[show X (d+41) n_20 [.pointer (some ⟨M.m,0,none⟩)] H3=_ from e4];simp only[callK_s];have n4:=a8.1;have hmlt:=h.lm;have hplt:=h.lp;have ne:∀j,H.next≤j→¬(j=M.m∨j=M.pm):=fun j hj e=>by omega
 obtain⟨o4,h4,s4⟩:=h.fresh (H':=H4) hn (nd:=H.next) (tb:=H1.next) (b:=H2.next) (p:=p) (A:=A) sb a1 ⟨es,clk,hpm,a2⟩ ((a8.2 H2.next (by omega) (ne _ (by omega))).trans g3) ((a8.2 H1.next (by omega) (ne _ (by omega))).trans (k3.get (by omega) g2)) ((a8.2 H.next (by omega) (ne _ (by omega))).trans (k3.get (by omega) (k2.get (by omega) g1))) a3 a6 (by omega) (fun k e=>by have:=a7 k e;omega) ((k03.to (S:=fun k=>k=M.m∨k=M.pm)).trans a8 fun _ _ e=>e);obtain⟨H5,o5,P5,e5,h5,s5,f5⟩:=fit_x d h4 (b:=H2.next) (updN_same _ _ _);rw[show X (d+41) n_17 [.pointer (some ⟨M.m,0,none⟩),.pointer (some ⟨H2.next,0,none⟩)] H4=_ from e5];simp only[callK_s];obtain⟨A',hA'⟩:∃A',P5=upd M.P (M.next:Int) (some ⟨p,A',GP.new M.rows M.cols,Sl.nil,[],H2.next⟩):=by
  have h0:=f5 (M.next:Int);simp only[upd_same,AT.panes,AT.places,List.zip_cons_cons,List.zip_nil_left,List.lookup,beq_self_eq_true]at h0;obtain⟨A',e⟩:=h0;have hg:(⟨fitG {M with next:=M.next+1,W:=updN M.W H2.next (some ⟨H1.next,.leaf H.next (M.next:Int),(M.next:Int),false,sb⟩),P:=upd M.P (M.next:Int) (some ⟨p,A,GP.new M.rows M.cols,Sl.nil,[],H2.next⟩)} ⟨H1.next,.leaf H.next (M.next:Int),(M.next:Int),false,sb⟩ (M.next:Int) (winRc M.rows M.cols) (GP.new M.rows M.cols).g,(GP.new M.rows M.cols).c,(GP.new M.rows M.cols).w⟩:GP)=GP.new M.rows M.cols:=by unfold fitG;rw[if_pos ?_];unfold tgt;rw[if_neg (by simp)];simp only[winRc,GP.new,G.fresh,Sc.init];omega
  rw[hg]at e;refine⟨A',funext fun j=>?_⟩;by_cases ej:j=(M.next:Int)
  ·rw[ej,upd_same];exact e
  ·rw[upd_ne _ _ ej];exact(f5.out (k:=j) (by simpa[AT.panes,AT.places]using ej)).trans (upd_ne _ _ ej)
 subst hA';exact⟨H2.next,H1.next,H.next,_,H5,o5,rfl,h5,rfl,rfl,rfl,s4.trans s5,by omega⟩
end Go.Proofs.YtjjchnjcmnkpdaaDoor.dec

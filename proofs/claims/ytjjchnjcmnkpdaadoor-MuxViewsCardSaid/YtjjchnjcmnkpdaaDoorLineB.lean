/-
  grid: escape sequences that move lines.
-/
import Derived.Test.YtjjchnjcmnkpdaaDoorLineA
import Derived.Test.YtjjchnjcmnkpdaaDoorDecA
import Derived.Test.YtjjchnjcmnkpdaaDoorCmH
namespace Go.Proofs.YtjjchnjcmnkpdaaDoor.dec
open Go Go.Cm
attribute [local congr] optK_congr asI_congr asN_congr asB_congr asS_congr asP_congr asA_congr asSL_congr callK_congr castT_congr chk_congr
def G.esc3(g:G)(r:Int):G:=if r=68 then g.index else if r=69 then({g with c:={g.c with col:=0}}:G).index else if g.c.row=g.c.top then(g.due false).down 1 else(g.due false).move ((g.c.row:Int)-1) g.c.col
theorem WF.esc3{g:G}(w:WF g)(r:Int):WF (g.esc3 r):=by
 unfold G.esc3;split; · exact w.index
 split; · exact(w.sc rfl rfl w.row (by have:=w.c1;show 0<g.c.cols;omega) w.top w.tb w.bot w.srow w.scol w.arow w.acol:WF {g with c:={g.c with col:=0}}).index
 split; · exact(w.due false).down 1
 exact(w.due false).move _ _
theorem esc3_s(d:Nat){H:Heap}{D:GD}{g:G}(h:Rep H D g)(w:WF g){r:Int}(hr:r=68∨r=69∨r=77):∃H' D',X (d+9) n_61 [P0 D.p,.int .i32 r] H=some (.tuple #[],H')∧Rep H' D' (g.esc3 r)∧Stp H D H' D':=by
 have hrow:=w.row;have hr2:=w.r2;rw[grid_Grid_esc_eq];unfold G.esc3;by_cases c1:r=68
 ·rw[if_pos (show decide (r=68)=true from decide_eq_true c1),if_pos c1];obtain⟨H',D',e,h',s'⟩:=index_s d h w;rw[e];exact⟨H',D',rfl,h',s'⟩
 rw[if_neg (show¬decide (r=68)=true from dneg c1),if_neg c1];by_cases c2:r=69
 ·rw[if_pos (show decide (r=69)=true from decide_eq_true c2),if_pos c2];obtain⟨H1,e1,h1,s1⟩:=h.s4 0;rw[show(0:Int)=((0:Nat):Int)from rfl,e1];simp only[optK_s];have w1:WF {g with c:={g.c with col:=0}}:=w.sc rfl rfl w.row (by have:=w.c1;show 0<g.c.cols;omega) w.top w.tb w.bot w.srow w.scol w.arow w.acol;obtain⟨H',D',e,h',s'⟩:=index_s d h1 w1;rw[e];exact⟨H',D',rfl,h',s1.trans s'⟩
 rw[if_neg (show¬decide (r=69)=true from dneg c2),if_neg c2,if_pos (show decide (r=77)=true from decide_eq_true (by omega))];obtain⟨H1,e1,h1,s1⟩:=h.s5 false;rw[e1];simp only[optK_s];rw[h1.l3,h1.l17];simp only[optK_s,asI_s];by_cases c3:g.c.row=g.c.top
 ·rw[if_pos (show decide ((g.c.row:Int)=(g.c.top:Int))=true from decide_eq_true (by omega)),if_pos c3];obtain⟨H',D',e,h',s'⟩:=down_s (d+1) h1 (w.due false) 1;rw[show(1:Int)=((1:Nat):Int)from rfl,e];exact⟨H',D',rfl,h',s1.trans s'⟩
 ·rw[if_neg (show¬decide ((g.c.row:Int)=(g.c.top:Int))=true from dneg (by omega)),if_neg c3,h1.l4];simp only[optK_s,asI_s];rw[w64 (n:=(g.c.row:Int)-1) (by omega)];obtain⟨H',e,h',s'⟩:=move_s (d+7) h1 (w.due false) ((g.c.row:Int)-1) g.c.col;rw[e];exact⟨H',D,rfl,h',s1.trans s'⟩
def Act.par(a:Act)(i:Nat)(dflt:Int):Int:=match a.params[i]? with
 |some n=>if n=0 then dflt else n
 |none=>dflt
theorem Params_s(d:Nat){H:Heap}{a:Act}{y:Sl}(w:Whole H y (intL a.params) t_3 1)(i:Nat)(dflt:Int):∃H',X (d+1) n_78 [.agg ⟨actL a y⟩,.int .i64 (i:Int),.int .i64 dflt] H=some (.int .i64 (a.par i dflt),H')∧Keep0 H H':=by
 rw[vt_Params_eq,boxA];have k1:Keep0 H (H.new (.cells (actL a y) t_110 false 0 false)):=Keep.new _ _;have g1:(H.new (.cells (actL a y) t_110 false 0 false)).get H.next=some (.cells (actL a y) t_110 false 0 false):=by simp
 generalize H.new (.cells (actL a y) t_110 false 0 false)=H1 at*;have w1:=Whole.keep w k1 fun _ _ e=>e;have hn:y.n=a.params.length:=by have:=(Whole.len w).1;rw[intL_len]at this;omega
 have l3:Heap.ld1 H1 (ap ⟨H.next,0,none⟩ 3)=some y.v:=(ld1_s g1).trans rfl;rw[if_neg (show¬decide ((i:Int)<0)=true from dneg (by omega))];simp only[P0,asP_s,optK_s];rw[l3];simp only[optK_s,asSL_k];unfold Act.par;by_cases h:i<a.params.length
 ·have hx:a.params[i]?=some a.params[i]:=List.getElem?_eq_getElem h;generalize a.params[i]=n at hx;have hne:y.a≠none:=by
   rcases w with ⟨h1,_⟩|⟨b,q,h1,_⟩
   ·rw[h1]at hn;have hn':0=a.params.length:=hn;omega
   ·rw[h1];simp
  obtain⟨b,v,_⟩:=Vw.of w1 hne;have hl:=v.ld (i:=i) (x:=.int .i64 n) (by simp[intL,hx]);have hap:ap ⟨b,([]:List Value).length,none⟩ (((i:Int).toNat)*1)=⟨b,([]:List Value).length+i,none⟩:=by simp[ap]
  rw[if_neg (show¬decide ((y.n:Int)≤(i:Int))=true from dneg (by omega)),v.sa];simp only[optK_s];rw[if_pos (show(0:Int)≤(i:Int)∧(i:Int)<(y.n:Int)by omega),hap,hl];simp only[optK_s,asI_s];rw[j1f_eq,hx];by_cases h0:n=0
  ·rw[if_pos (show decide (n=0)=true from decide_eq_true h0)];exact⟨H1,by simp[h0],k1⟩
  ·rw[if_neg (show¬decide (n=0)=true from dneg h0)];simp only[asP_s,optK_s];rw[l3];simp only[optK_s,asSL_k];rw[v.sa];simp only[optK_s];rw[if_pos (show(0:Int)≤(i:Int)∧(i:Int)<(y.n:Int)by omega),hap,hl];simp only[optK_s,asI_s];exact⟨H1,by simp[h0],k1⟩
 ·rw[if_pos (show decide ((y.n:Int)≤(i:Int))=true from decide_eq_true (by omega)),j1f_eq,if_pos rfl,List.getElem?_eq_none (by omega)];exact⟨H1,rfl,k1⟩
def Act.ok(a:Act):Prop:=a.params.length≤1000∧∀n∈a.params,0≤n∧n≤9999
theorem intN{H:Heap}{y:Sl}{l:List Int}(w:Whole H y (intL l) t_3 1):y.n=l.length:=by have:=(Whole.len w).1;rw[intL_len]at this;omega
theorem intAt{H:Heap}{y:Sl}{l:List Int}(w:Whole H y (intL l) t_3 1){i:Nat}{n:Int}(h:l[i]?=some n):∃b,y.a=some ⟨b,0,none⟩∧Heap.ld1 H (ap ⟨b,0,none⟩ (((i:Int).toNat)*1))=some (.int .i64 n):=by
 have hn:=intN w;have hlt:=(List.getElem?_eq_some_iff.1 h).1;have hne:y.a≠none:=by
  rcases w with ⟨h1,_⟩|⟨b,q,h1,_⟩
  ·rw[h1]at hn;have hn':0=l.length:=hn;omega
  ·rw[h1];simp
 obtain⟨b,v,_⟩:=Vw.of w hne;have hl:=v.ld (i:=i) (x:=.int .i64 n) (by simp[intL,h]);refine⟨b,v.sa,?_⟩;rw[show ap ⟨b,0,none⟩ (((i:Int).toNat)*1)=⟨b,([]:List Value).length+i,none⟩by simp[ap]];exact hl
theorem Index_loop(d:Nat){H:Heap}{y:Sl}{l:List Int}(w:Whole H y (intL l) t_3 1)(hl:l.length≤1000)(x:Int):∀(r:List Int) (m i:Nat),r.length<m→l.drop i=r→i+r.length=l.length→∃n:Int,ja d m y x (y.n:Int) (i:Int) H=some (.int .i64 n,H)∧(0≤n↔x∈r):=fun r=>by
 induction r with
 |nil=>intro m i hm _ hi;obtain⟨m,rfl⟩:∃m',m=m'+1:=⟨m-1,by simp at hm;omega⟩;have hn:=intN w;simp only[List.length_nil]at hi;rw[ja_s,if_neg (show¬decide ((i:Int)<(y.n:Int))=true from dneg (by omega))];exact⟨-1,rfl,by simp⟩
 |cons a r ih=>
  intro m i hm hd hi;simp only[List.length_cons]at hm hi;obtain⟨m,rfl⟩:∃m',m=m'+1:=⟨m-1,by omega⟩;have hc:l[i]?=some a:=by have:=congrArg (fun x=>x[0]?) hd;simpa using this
  have hdr:l.drop (i+1)=r:=by rw[←List.drop_drop,hd];rfl
  have hn:=intN w;obtain⟨b,ha,hl1⟩:=intAt w hc;rw[ja_s,if_pos (show decide ((i:Int)<(y.n:Int))=true from decide_eq_true (by omega)),ha];simp only[optK_s];rw[if_pos (show(0:Int)≤(i:Int)∧(i:Int)<(y.n:Int)by omega),hl1];simp only[optK_s,asI_s];by_cases e:x=a
  ·rw[if_pos (show decide (x=a)=true from decide_eq_true e)];exact⟨i,rfl,by subst e;simp⟩
  ·rw[if_neg (show¬decide (x=a)=true from dneg e),wi (by omega)];obtain⟨n,e1,e2⟩:=ih m (i+1) (by omega) hdr (by omega);exact⟨n,e1,by rw[e2];simp[e]⟩
theorem Contains_s(d:Nat){H:Heap}{y:Sl}{l:List Int}(w:Whole H y (intL l) t_3 1)(hl:l.length≤1000)(x:Int):X (d+2) n_54 [y.v,.int .i64 x] H=some (.bool (decide (x∈l)),H):=by rw[slices_Contains_S_int_int_eq,slices_Index_S_int_int_eq];obtain⟨n,e1,e2⟩:=Index_loop d w hl x l NN 0 (NN_big _ (by omega)) rfl (by omega);rw[show(0:Int)=((0:Nat):Int)from rfl,e1];simp only[callK_s,asI_s];rw[show decide (((0:Nat):Int)≤n)=decide (x∈l)from decide_eq_decide.2 e2]
def Cl.sty(c:Cl)(k:Int):Cl:=if k=0 then zeroC else if k=1 then {c with s:=bitsI .or .i64 c.s 1}else if k=4 then {c with s:=bitsI .or .i64 c.s 2}else if k=7 then {c with s:=bitsI .or .i64 c.s 4}else if k=22 then {c with s:=bitsI .andNot .i64 c.s 1}else if k=24 then {c with s:=bitsI .andNot .i64 c.s 2}else if k=27 then {c with s:=bitsI .andNot .i64 c.s 4}else if 30≤k∧k≤37 then {c with f:=k-29}else if k=39 then {c with f:=0}else if 40≤k∧k≤47 then {c with b:=k-39}else if k=49 then {c with b:=0}else c
def G.style(g:G)(k:Int):G:={g with c:={g.c with st:=g.c.st.sty k}}
theorem WF.style{g:G}(w:WF g)(k:Int):WF (g.style k):=w.sc rfl rfl w.row w.col w.top w.tb w.bot w.srow w.scol w.arow w.acol
theorem Rep.s6{H:Heap}{D:GD}{g:G}(h:Rep H D g):∃H',Heap.stN H ⟨D.p,6,none⟩ [.int .i32 0,.int .i64 0,.int .i64 0,.int .i64 0]=some H'∧Rep H' D {g with c:={g.c with st:=zeroC}}∧Stp H D H' D:=⟨H.put D.p (.cells (gridL {g.c with st:=zeroC} D) t_96 false 0 false),by simp only[Heap.stN,h.get];rfl,h.setc _,Stp.setc h _⟩
theorem style_s(d:Nat){H:Heap}{D:GD}{g:G}(h:Rep H D g)(k:Int):∃H',X (d+1) n_79 [P0 D.p,.int .i64 k] H=some (.tuple #[],H')∧Rep H' D (g.style k)∧Stp H D H' D:=by
 rw[grid_Grid_style_eq];have l9:Heap.ld1 H ⟨D.p,9,none⟩=some (.int .i64 g.c.st.s):=h.l9;unfold G.style Cl.sty;by_cases c0:k=0
 ·rw[if_pos (show decide (k=0)=true from decide_eq_true c0),if_pos c0];obtain⟨H',e,r,s⟩:=h.s6;rw[e];exact⟨H',rfl,r,s⟩
 rw[if_neg (show¬decide (k=0)=true from dneg c0),if_neg c0];by_cases c1:k=1
 ·rw[if_pos (show decide (k=1)=true from decide_eq_true c1),if_pos c1,l9];obtain⟨H',e,r,s⟩:=h.s9 (bitsI .or .i64 g.c.st.s 1);simp only[optK_s,asI_s,e];exact⟨H',rfl,r,s⟩
 rw[if_neg (show¬decide (k=1)=true from dneg c1),if_neg c1];by_cases c2:k=4
 ·rw[if_pos (show decide (k=4)=true from decide_eq_true c2),if_pos c2,l9];obtain⟨H',e,r,s⟩:=h.s9 (bitsI .or .i64 g.c.st.s 2);simp only[optK_s,asI_s,e];exact⟨H',rfl,r,s⟩
 rw[if_neg (show¬decide (k=4)=true from dneg c2),if_neg c2];by_cases c3:k=7
 ·rw[if_pos (show decide (k=7)=true from decide_eq_true c3),if_pos c3,l9];obtain⟨H',e,r,s⟩:=h.s9 (bitsI .or .i64 g.c.st.s 4);simp only[optK_s,asI_s,e];exact⟨H',rfl,r,s⟩
 rw[if_neg (show¬decide (k=7)=true from dneg c3),if_neg c3];by_cases c4:k=22
 ·rw[if_pos (show decide (k=22)=true from decide_eq_true c4),if_pos c4,l9];obtain⟨H',e,r,s⟩:=h.s9 (bitsI .andNot .i64 g.c.st.s 1);simp only[optK_s,asI_s,e];exact⟨H',rfl,r,s⟩
 rw[if_neg (show¬decide (k=22)=true from dneg c4),if_neg c4];by_cases c5:k=24
 ·rw[if_pos (show decide (k=24)=true from decide_eq_true c5),if_pos c5,l9];obtain⟨H',e,r,s⟩:=h.s9 (bitsI .andNot .i64 g.c.st.s 2);simp only[optK_s,asI_s,e];exact⟨H',rfl,r,s⟩
 rw[if_neg (show¬decide (k=24)=true from dneg c5),if_neg c5];by_cases c6:k=27
 ·rw[if_pos (show decide (k=27)=true from decide_eq_true c6),if_pos c6,l9];obtain⟨H',e,r,s⟩:=h.s9 (bitsI .andNot .i64 g.c.st.s 4);simp only[optK_s,asI_s,e];exact⟨H',rfl,r,s⟩
 rw[if_neg (show¬decide (k=27)=true from dneg c6),if_neg c6];have pE:∀b:Bool,b=decide (40≤k∧k≤47)→∃H',j1z d k ⟨D.p,6,none⟩ b H=some (.tuple #[],H')∧Rep H' D {g with c:={g.c with st:=if 40≤k∧k≤47 then {g.c.st with b:=k-39}else if k=49 then {g.c.st with b:=0}else g.c.st}}∧Stp H D H' D:=fun b hb=>by
  rw[j1z_eq];by_cases c9:40≤k∧k≤47
  ·rw[if_pos (show b=true by rw[hb];exact decide_eq_true c9),if_pos c9,w64 (by omega)];obtain⟨H',e,r,s⟩:=h.s8 (k-39);rw[show ap ⟨D.p,6,none⟩ 2=⟨D.p,8,none⟩from rfl,e];exact⟨H',rfl,r,s⟩
  ·rw[if_neg (show¬b=true by rw[hb];exact dneg c9),if_neg c9];by_cases c10:k=49
   ·rw[if_pos (show decide (k=49)=true from decide_eq_true c10),if_pos c10];obtain⟨H',e,r,s⟩:=h.s8 0;rw[show ap ⟨D.p,6,none⟩ 2=⟨D.p,8,none⟩from rfl,e];exact⟨H',rfl,r,s⟩
   ·rw[if_neg (show¬decide (k=49)=true from dneg c10),if_neg c10];exact⟨H,rfl,h,Stp.refl _ _⟩
 have pF:∀b:Bool,b=decide (30≤k∧k≤37)→∃H',j1y d k ⟨D.p,6,none⟩ b H=some (.tuple #[],H')∧Rep H' D {g with c:={g.c with st:=if 30≤k∧k≤37 then {g.c.st with f:=k-29}else if k=39 then {g.c.st with f:=0}else if 40≤k∧k≤47 then {g.c.st with b:=k-39}else if k=49 then {g.c.st with b:=0}else g.c.st}}∧Stp H D H' D:=fun b hb=>by
  rw[j1y_eq];by_cases c7:30≤k∧k≤37
  ·rw[if_pos (show b=true by rw[hb];exact decide_eq_true c7),if_pos c7,w64 (by omega)];obtain⟨H',e,r,s⟩:=h.s7 (k-29);rw[show ap ⟨D.p,6,none⟩ 1=⟨D.p,7,none⟩from rfl,e];exact⟨H',rfl,r,s⟩
  rw[if_neg (show¬b=true by rw[hb];exact dneg c7),if_neg c7];by_cases c8:k=39
  ·rw[if_pos (show decide (k=39)=true from decide_eq_true c8),if_pos c8];obtain⟨H',e,r,s⟩:=h.s7 0;rw[show ap ⟨D.p,6,none⟩ 1=⟨D.p,7,none⟩from rfl,e];exact⟨H',rfl,r,s⟩
  rw[if_neg (show¬decide (k=39)=true from dneg c8),if_neg c8];by_cases c9:40≤k
  ·rw[if_pos (show decide ((40:Int)≤k)=true from decide_eq_true c9)];exact pE _ (decide_eq_decide.2 (by omega))
  ·rw[if_neg (show¬decide ((40:Int)≤k)=true from dneg c9)];exact pE _ (by rw[decide_eq_false (by omega)])
 by_cases c7:30≤k
 ·rw[if_pos (show decide ((30:Int)≤k)=true from decide_eq_true c7)];exact pF _ (decide_eq_decide.2 (by omega))
 ·rw[if_neg (show¬decide ((30:Int)≤k)=true from dneg c7)];exact pF _ (by rw[decide_eq_false (by omega)])
def Sc.init(r c:Nat):Sc:=⟨r,c,0,0,false,zeroC,0,0,false,zeroC,0,r-1,true,false,false,0,0,false,zeroC⟩
def tabs0(n:Nat):List Bool:=(List.range n).map fun i=>decide (0<i)&&decide (i%8=0)
def G.fresh(r c:Nat)(past:List (List Cl)):G:=⟨Sc.init r c,List.replicate r (List.replicate c blank),tabs0 c,none,past⟩
theorem tabs0_succ(n:Nat):tabs0 (n+1)=tabs0 n++[decide (0<n)&&decide (n%8=0)]:=by simp[tabs0,List.range_succ]
theorem TabO.push{H:Heap}{s:Sl}{cs:List Value}(h:TabO H s cs)(hq:cs.length≤100000)(v:Value):∃s' H',(∀K,appendK t_4 1 1 false s.v (.slice (some ⟨H.next,0,none⟩) 1 1) (H.new (.cells [v] t_4 false 0 false)) K=K s'.v H')∧Whole H' s' (cs++[v]) t_4 1∧Keep s.at H H'∧(∀k,s'.at k→H.next<k):=by
 rcases h with ⟨rfl,rfl⟩|⟨b,Z,h,hc⟩
 ·obtain⟨s',H',e1,e2,e3,_,e5,_⟩:=push_whole (H:=H) (s:=Sl.nil) (cs:=[]) (e:=t_4) (sz:=1) (bytes:=1) (new:=[v]) (.inl ⟨rfl,rfl⟩) rfl (by show(0+1)*1≤_;omega) (by omega) (by omega);exact⟨s',H',e1,e2,e3,e5⟩
 ·obtain⟨a1,a2,_,a4,o,st,a5⟩:=h;rw[List.nil_append]at a5;rw[List.length_nil]at a1;have hn:s.n=cs.length:=by omega
  have g1:(H.new (.cells [v] t_4 false 0 false)).get b=some (.cells (cs++Z) t_4 o 0 st):=by rw[Heap.get_new_ne _ _ (by omega)];exact a5
  have hsrc:srcCells (H.new (.cells [v] t_4 false 0 false)) 1 1 (.slice (some ⟨H.next,0,none⟩) 1 1)=some [v]:=by simp only[srcCells];rw[if_neg (by omega),ldN_s (Heap.get_new_same H _) (by simp)];rfl
  have ht2:List.take s.n (cs++Z)=cs:=by rw[hn,List.take_append_of_le_length (Nat.le_refl _),List.take_length]
  have hlen:(cs++Z).length=s.n+Z.length:=by rw[List.length_append,hn]
  have fin:∀H1:Heap,H1.next=H.next+1→(∀k,k<H.next→k≠b→H1.get k=H.get k)→∀st2,Whole (H1.new (.cells (cs++[v]) t_4 true 0 st2)) ⟨some ⟨H1.next,0,none⟩,s.n+1,s.n+1⟩ (cs++[v]) t_4 1∧Keep s.at H (H1.new (.cells (cs++[v]) t_4 true 0 st2)):=fun H1 e1 e2 st2=>
   ⟨.inr ⟨_,_,rfl,by simp[hn],by simp,true,st2,by simp⟩,by simp[e1];omega,fun k hk hs=>by rw[Heap.get_new_ne _ _ (by omega)];exact e2 k hk fun h=>hs ⟨_,a1,h.symm⟩⟩
  by_cases hx:exact 1 (cs++Z).length 0 s.n o=true
  ·obtain⟨k1,k2⟩:=fin (H.new (.cells [v] t_4 false 0 false)) (by simp) (fun k hk hb=>by rw[Heap.get_new_ne _ _ (by omega)]) false;refine⟨⟨some ⟨(H.new (.cells [v] t_4 false 0 false)).next,0,none⟩,s.n+1,s.n+1⟩,_,fun K=>?_,k1,k2,?_⟩
   ·simp only[appendK,asSl,Sl.v,srcN,optK,hsrc,a1,g1,hc];rw[if_neg (by omega),if_pos (by omega),if_pos (by omega),if_pos ⟨hx,.inr trivial⟩,Nat.mul_one,List.drop_zero,ht2]
   ·rintro k ⟨a,h,rfl⟩;cases h;simp
  ·obtain⟨k1,k2⟩:=fin ((H.new (.cells [v] t_4 false 0 false)).kill b) (by simp) (fun k hk hb=>by rw[Heap.get_kill_ne _ hb,Heap.get_new_ne _ _ (by omega)]) st;refine⟨⟨some ⟨((H.new (.cells [v] t_4 false 0 false)).kill b).next,0,none⟩,s.n+1,s.n+1⟩,_,fun K=>?_,k1,k2,?_⟩
   ·simp only[appendK,asSl,Sl.v,srcN,optK,hsrc,a1,g1,hc];rw[if_neg (by omega),if_pos (by omega),if_pos (by omega),if_neg (fun e=>hx e.1),if_pos ⟨trivial,by omega⟩,Nat.mul_one,List.drop_zero,ht2];simp
   ·rintro k ⟨a,h,rfl⟩;cases h;simp
theorem Rep.tab{H:Heap}{D:GD}{g:G}(h:Rep H D g)(hn:g.tabs.length≤1000)(b:Bool):∃y H1 H',(∀K,appendK t_4 1 1 false D.tabs.v (.slice (some ⟨H.next,0,none⟩) 1 1) (H.new (.cells [.bool b] t_4 false 0 false)) K=K (Sl.v y) H1)∧Heap.st1 H1 ⟨D.p,22,none⟩ y.v=some H'∧Rep H' {D with tabs:=y} {g with tabs:=g.tabs++[b]}∧Stp H D H' {D with tabs:=y}:=by
 have hl:=h.ta.n;rw[List.length_map]at hl;obtain⟨y,H1,e1,w1,k1,f1⟩:=h.ta.push (by rw[List.length_map];omega) (.bool b);have hS:∀k,D.tabs.at k→D.cmp 3 k:=fun k e=>e;have g1:=h.o0 k1 hS (by decide);have kp:Keep (fun k=>k=D.p) H1 (H1.put D.p (.cells (gridL g.c {D with tabs:=y}) t_96 false 0 false)):=Keep.put _ _ _ rfl;have hn1:=k1.1;have k2:Keep (fun k=>D.cmp 0 k∨D.cmp 3 k) H (H1.put D.p (.cells (gridL g.c {D with tabs:=y}) t_96 false 0 false)):=(k1.mono fun k _ e=>.inr e).trans (kp.mono (T:=fun k=>D.cmp 0 k∨D.cmp 3 k) fun k _ e=>.inl e) fun _ _ e=>e;have hS2:∀i,i≠0→i≠3→∀k,D.cmp i k→¬(D.cmp 0 k∨D.cmp 3 k):=fun i h0 h3 k e e'=>e'.elim (fun e'=>h0 (h.sep _ _ k e e')) (fun e'=>h3 (h.sep _ _ k e e'));have hyp:¬y.at D.p:=fun e=>by have:=f1 _ e;have:=h.lt;omega
 refine⟨y,H1,H1.put D.p (.cells (gridL g.c {D with tabs:=y}) t_96 false 0 false),e1,(st1_s g1 (v:=y.v) (by show 22<33;omega) (by omega)).trans rfl,?_,⟨rfl,rfl,k2.mono fun k _ e=>e.elim (fun e=>⟨0,e⟩) (fun e=>⟨3,e⟩),fun k ⟨i,e⟩=>?_⟩⟩
 ·refine⟨by simp,Nat.lt_of_lt_of_le h.lt k2.1,Whole.keep h.co k2 (hS2 1 (by decide) (by decide)),h.cr.keep k2 (hS2 2 (by decide) (by decide)),h.cL,?_,h.oo.keep k2 (hS2 4 (by decide) (by decide)),h.or.keep k2 (hS2 5 (by decide) (by decide)),h.po.keep k2 (hS2 6 (by decide) (by decide)),h.pr.keep k2 (hS2 7 (by decide) (by decide)),h.pL,?_⟩
  ·have:=TabO.of<|Whole.keep w1 kp fun k e e'=>hyp (by have e'':k=D.p:=e';rw[←e''];exact e);simpa using this
  ·refine sep_of (D:=D) (N:=H.next+1) h.sep (fun i k e=>?_) (fun i j k hN e e'=>?_)
   ·match i,e with
    |0,e=>exact .inl e
    |1,e=>exact .inl e
    |2,e=>exact .inl e
    |3,e=>exact .inr (f1 k e)
    |4,e=>exact .inl e
    |5,e=>exact .inl e
    |6,e=>exact .inl e
    |7,e=>exact .inl e
   ·have z:∀i,({D with tabs:=y}:GD).cmp i k→i=3:=fun i e=>by
      have old:∀i,D.cmp i k→False:=fun i e=>by have:=cmp_lt h e;omega
      match i,e with
      |0,e=>exact(old 0 e).elim
      |1,e=>exact(old 1 e).elim
      |2,e=>exact(old 2 e).elim
      |3,e=>rfl
      |4,e=>exact(old 4 e).elim
      |5,e=>exact(old 5 e).elim
      |6,e=>exact(old 6 e).elim
      |7,e=>exact(old 7 e).elim
    rw[z i e,z j e']
 ·match i,e with
  |0,e=>exact .inl ⟨0,e⟩
  |1,e=>exact .inl ⟨1,e⟩
  |2,e=>exact .inl ⟨2,e⟩
  |3,e=>exact .inr (by have:=f1 k e;omega)
  |4,e=>exact .inl ⟨4,e⟩
  |5,e=>exact .inl ⟨5,e⟩
  |6,e=>exact .inl ⟨6,e⟩
  |7,e=>exact .inl ⟨7,e⟩
theorem tabs_loop(d n:Nat)(hn:n≤1000){c:Sc}(h1:c.st=zeroC)(h2:c.sst=zeroC):∀(m i:Nat) {H:Heap} {D:GD} {g:G},n-i<m→i≤n→g.c=c→g.tabs=tabs0 i→Rep H D g→
  ∃H' y,j1w d m D.p (n:Int) (i:Int) H=some (.tuple #[],H')∧Rep H' {D with tabs:=y} {g with tabs:=tabs0 n}∧Stp H D H' {D with tabs:=y}:=fun m=>by
 induction m with
 |zero=>intro i H D g hm;omega
 |succ m ih=>
  intro i H D g hm hi hc ht h;rw[j1w_s];by_cases hlt:i<n
  ·rw[if_pos (show decide ((i:Int)<(n:Int))=true from decide_eq_true (by omega)),h.l22];simp only[optK_s,asSL_k];have A:∀(z:Bool),z=(decide (0<i)&&decide (i%8=0))→∃H' y,newK H (.cells [.bool z] t_4 false 0 false) (fun p3 H4=>appendK t_4 1 1 false D.tabs.v (.slice (some ⟨p3,0,none⟩) 1 1) H4 fun v5 H6=>asSL v5 fun l7=>optK (Heap.st1 H6 ⟨D.p,22,none⟩ l7.v) fun H8=>j1x d m D.p (n:Int) (i:Int) H8)=some (.tuple #[],H')∧Rep H' {D with tabs:=y} {g with tabs:=tabs0 n}∧Stp H D H' {D with tabs:=y}:=fun z hz=>by
    have htl:g.tabs.length≤1000:=by rw[ht];simp[tabs0];omega
    obtain⟨y,H1,H2,e1,e2,h',s'⟩:=h.tab htl z;simp only[newK_s];rw[e1];simp only[asSL_k];rw[e2];simp only[optK_s];rw[j1x_eq,wi (by omega)];obtain⟨H3,y3,e3,h3,s3⟩:=ih (i+1) (by omega) (by omega) (g:={g with tabs:=g.tabs++[z]}) hc (by show g.tabs++[z]=_;rw[tabs0_succ,ht,hz]) h';exact⟨H3,y3,e3,h3,s'.trans s3⟩
   by_cases h0:0<i
   ·rw[if_pos (show decide ((0:Int)<(i:Int))=true from decide_eq_true (by omega))];refine A _ ?_;rw[decide_eq_true h0,Bool.true_and];have:Int.tmod (i:Int) 8=((i%8:Nat):Int):=by rw[Int.tmod_eq_emod_of_nonneg (by omega)];omega
    rw[this];exact decide_eq_decide.2 (by omega)
   ·rw[if_neg (show¬decide ((0:Int)<(i:Int))=true from dneg (by omega))];exact A false (by rw[decide_eq_false h0];rfl)
  ·rw[if_neg (show¬decide ((i:Int)<(n:Int))=true from dneg (by omega))];have hin:i=n:=by omega
   subst hin;have z:Heap.stN H ⟨D.p,6,none⟩ [.int .i32 0,.int .i64 0,.int .i64 0,.int .i64 0]=some (H.put D.p (.cells (gridL g.c D) t_96 false 0 false)):=by simp only[Heap.stN,h.get];rw[hc];simp only[gridL,h1,h2];rfl
   rw[z];simp only[optK_s];have hg2:(H.put D.p (.cells (gridL g.c D) t_96 false 0 false)).get D.p=some (.cells (gridL g.c D) t_96 false 0 false):=by simp
   have z2:Heap.stN (H.put D.p (.cells (gridL g.c D) t_96 false 0 false)) ⟨D.p,13,none⟩ [.int .i32 0,.int .i64 0,.int .i64 0,.int .i64 0]=some ((H.put D.p (.cells (gridL g.c D) t_96 false 0 false)).put D.p (.cells (gridL g.c D) t_96 false 0 false)):=by simp only[Heap.stN,hg2];rw[hc];simp only[gridL,h1,h2];rfl
   rw[z2];simp only[optK_s];have h3:=h.setc g.c;have s3:=Stp.setc h g.c;have h4:=h3.setc g.c;have s4:=Stp.setc h3 g.c;refine⟨_,D.tabs,rfl,?_,s3.trans s4⟩;rw[←ht];exact h4
theorem reset_s(d:Nat){H:Heap}{p pp r c:Nat}{past:Sl}{pq:Q}{L:List Value}(hr:1≤r∧r≤60)(hc:1≤c∧c≤120)(hg:H.get p=some (.cells L t_96 false 0 false))(hL:L.length=33)(l0:L[0]?=some (.int .i64 (r:Int)))(l1:L[1]?=some (.int .i64 (c:Int)))(l31:L[31]?=some past.v)(l32:L[32]?=some (P0 pp))(hp:p<H.next)(po:PastO H past pq)(pr:Rows H pq)(n1:¬past.at p)(n2:¬bl pq p)(n3:∀k,past.at k→¬bl pq k):∃H' D',X (d+6) n_31 [P0 p] H=some (.tuple #[],H')∧Rep H' D' (G.fresh r c (pq.map Prod.snd))∧D'.p=p∧D'.pp=pp∧Keep (fun k=>k=p∨past.at k∨bl pq k) H H'∧(∀k,D'.foot k→k=p∨past.at k∨bl pq k∨H.next≤k):=by
 rw[grid_Grid_reset_eq,(ld1_s hg).trans l0];simp only[optK_s,asI_s];rw[(ld1_s hg).trans l1];simp only[optK_s,asI_s];rw[(ld1_s hg).trans l31];simp only[optK_s,asSL_k];rw[(ld1_s hg).trans l32];simp only[optK_s,P0,asP_s]
 let c9:Sc:={Sc.init r c with bottom:=0,wrap:=false}
 let D9:GD:=⟨p,pp,Sl.nil,[],Sl.nil,Sl.nil,[],past,pq⟩
 have e9:Heap.stN H ⟨p,0,none⟩ [.int .i64 r,.int .i64 c,.slice none 0 0,.int .i64 0,.int .i64 0,.bool false,.int .i32 0,.int .i64 0,.int .i64 0,.int .i64 0,.int .i64 0,.int .i64 0,.bool false,.int .i32 0,.int .i64 0,.int .i64 0,.int .i64 0,.int .i64 0,.int .i64 0,.bool false,.bool false,.bool false,.slice none 0 0,.slice none 0 0,.int .i64 0,.int .i64 0,.bool false,.int .i32 0,.int .i64 0,.int .i64 0,.int .i64 0,past.v,.pointer (some ⟨pp,0,none⟩)]=some (H.put p (.cells (gridL c9 D9) t_96 false 0 false)):=by simp only[Heap.stN,hg];rw[if_pos (by rw[hL];exact⟨Nat.le_refl 33,Nat.le_refl 0⟩)];simp only[splice,List.take_zero,List.nil_append,Nat.zero_add];rw[List.drop_eq_nil_of_le (by rw[hL];exact Nat.le_refl 33),List.append_nil];rfl
 rw[e9];simp only[optK_s];have g9:(H.put p (.cells (gridL c9 D9) t_96 false 0 false)).get p=some (.cells (gridL c9 D9) t_96 false 0 false):=by simp
 have k9:Keep (fun k=>k=p) H (H.put p (.cells (gridL c9 D9) t_96 false 0 false)):=Keep.put _ _ _ rfl;have n9:(H.put p (.cells (gridL c9 D9) t_96 false 0 false)).next=H.next:=rfl
 generalize H.put p (.cells (gridL c9 D9) t_96 false 0 false)=H9 at*;rw[(ld1_s g9).trans (show(gridL c9 D9)[0]?=some (.int .i64 (r:Int))from rfl)];simp only[optK_s,asI_s];rw[(ld1_s g9).trans (show(gridL c9 D9)[1]?=some (.int .i64 (c:Int))from rfl)];simp only[optK_s,asI_s];obtain⟨s,q,H15,e15,o15,r15,q15,s15,b15,d15,k15⟩:=sheet_s d r c (by omega) (by omega) H9;rw[e15];simp only[callK_s,asSL_k];have g15:=k15.get (by omega) g9
 let D17:GD:=⟨p,pp,s,q,Sl.nil,Sl.nil,[],past,pq⟩
 have e17:Heap.st1 H15 ⟨p,2,none⟩ s.v=some (H15.put p (.cells (gridL c9 D17) t_96 false 0 false)):=(st1_s g15 (v:=s.v) (by show 2<33;omega) (by omega)).trans rfl;rw[e17];simp only[optK_s];have kp:Keep (fun k=>k=p) H15 (H15.put p (.cells (gridL c9 D17) t_96 false 0 false)):=Keep.put _ _ _ rfl;have g17:(H15.put p (.cells (gridL c9 D17) t_96 false 0 false)).get p=some (.cells (gridL c9 D17) t_96 false 0 false):=by simp
 generalize H15.put p (.cells (gridL c9 D17) t_96 false 0 false)=H17 at*;have n15:=k15.1;have n17:=kp.1;have k017:Keep (fun k=>k=p) H H17:=(k9.trans k15.to fun _ _ e=>e).trans kp fun _ _ e=>e;have po17:PastO H17 past pq:=po.keep k017 fun k e e'=>n1 (by have e'':k=p:=e';rw[←e''];exact e);have pr17:Rows H17 pq:=pr.keep k017 fun k e e'=>n2 (by have e'':k=p:=e';rw[←e''];exact e);have o17:Outer H17 s q:=Whole.keep o15 kp fun k e e'=>by have e'':k=p:=e';have:=s15 k e;omega
 have r17:Rows H17 q:=r15.keep kp fun k e e'=>by have e'':k=p:=e';have:=b15 k e;omega
 have cs:∀i k,D17.cmp i k→(i=0∧k=p)∨(i=1∧s.at k∧H.next≤k)∨(i=2∧bl q k∧H.next≤k)∨(i=6∧past.at k∧k<H.next∧k≠p)∨(i=7∧bl pq k∧k<H.next∧k≠p):=fun i k e=>by
  match i,e with
  |0,e=>exact .inl ⟨rfl,e⟩
  |1,e=>exact .inr (.inl ⟨rfl,e,by have:=s15 k e;omega⟩)
  |2,e=>exact .inr (.inr (.inl ⟨rfl,e,by have:=b15 k e;omega⟩))
  |3,e=>exact absurd e Sl.at_nil
  |4,e=>exact absurd e Sl.at_nil
  |5,e=>exact absurd e bl_nil
  |6,e=>exact .inr (.inr (.inr (.inl ⟨rfl,e,po.lt e,fun e'=>n1 (e'▸e)⟩)))
  |7,e=>exact .inr (.inr (.inr (.inr ⟨rfl,e,pr.lt e,fun e'=>n2 (e'▸e)⟩)))
 have rep17:Rep H17 D17 ⟨c9,List.replicate r (List.replicate c blank),[],none,pq.map Prod.snd⟩:=by
  refine⟨g17,by show p<H17.next;omega,o17,r17,q15,.inl ⟨rfl,rfl⟩,⟨rfl,rfl⟩,⟨by simp[D17],by simp[D17]⟩,po17,pr17,rfl,fun i j k e1 e2=>?_⟩;rcases cs i k e1 with ⟨rfl,a1⟩|⟨rfl,a1,b1⟩|⟨rfl,a1,b1⟩|⟨rfl,a1,b1,z1⟩|⟨rfl,a1,b1,z1⟩<;>rcases cs j k e2 with ⟨rfl,a2⟩|⟨rfl,a2,b2⟩|⟨rfl,a2,b2⟩|⟨rfl,a2,b2,z2⟩|⟨rfl,a2,b2,z2⟩<;>first|rfl|(exfalso;omega)|exact absurd a2 (d15 k a1)|exact absurd a1 (d15 k a2)|exact absurd a2 (n3 k a1)|exact absurd a1 (n3 k a2)
 rw[show Heap.ld1 H17 ⟨p,0,none⟩=some (.int .i64 (r:Int))from rep17.l0];simp only[optK_s,asI_s];obtain⟨H20,e20,rep20,s20⟩:=rep17.s18 (r-1);rw[show IntKind.wrap .i64 ((r:Int)-1)=((r-1:Nat):Int)by rw[w64 (by omega)];omega,show Heap.st1 H17 ⟨p,18,none⟩ (.int .i64 ((r-1:Nat):Int))=some H20 from e20];simp only[optK_s];obtain⟨H21,e21,rep21,s21⟩:=rep20.s19 true;rw[show Heap.st1 H20 ⟨p,19,none⟩ (.bool true)=some H21 from e21];simp only[optK_s];rw[show Heap.ld1 H21 ⟨p,1,none⟩=some (.int .i64 (c:Int))from rep21.l1];simp only[optK_s,asI_s];obtain⟨H',y,e',rep',s'⟩:=tabs_loop (d+5) c (by omega) (c:=Sc.init r c) rfl rfl NN 0 (NN_big _ (by omega)) (by omega) rfl rfl rep21;rw[show(0:Int)=((0:Nat):Int)from rfl];have st:=(s20.trans s21).trans s';refine⟨H',{D17 with tabs:=y},e',rep',rfl,rfl,?_,fun k e=>?_⟩
 ·have hf:∀k,D17.foot k→k=p∨past.at k∨bl pq k∨H.next≤k:=fun k ⟨i,e⟩=>by
   rcases cs i k e with ⟨_,a⟩|⟨_,a,b⟩|⟨_,a,b⟩|⟨_,a,_⟩|⟨_,a,_⟩
   ·exact .inl a
   ·exact .inr (.inr (.inr b))
   ·exact .inr (.inr (.inr b))
   ·exact .inr (.inl a)
   ·exact .inr (.inr (.inl a))
  exact(k017.mono (T:=fun k=>k=p∨past.at k∨bl pq k) fun k _ e=>.inl e).trans st.kp fun k hk e=>by
   rcases hf k e with e|e|e|e
   ·exact .inl e
   ·exact .inr (.inl e)
   ·exact .inr (.inr e)
   ·omega
 ·rcases st.ft k e with ⟨i,e⟩|e
  ·rcases cs i k e with ⟨_,a⟩|⟨_,a,b⟩|⟨_,a,b⟩|⟨_,a,_⟩|⟨_,a,_⟩
   ·exact .inl a
   ·exact .inr (.inr (.inr b))
   ·exact .inr (.inr (.inr b))
   ·exact .inr (.inl a)
   ·exact .inr (.inr (.inl a))
  ·exact .inr (.inr (.inr (by omega)))
theorem WF.fresh{r c:Nat}(hr:1≤r∧r≤60)(hc:1≤c∧c≤120){past:List (List Cl)}(h1:past.length≤200)(h2:∀l∈past,l≠[]∧l.length≤120):WF (G.fresh r c past):=by
 refine⟨hr.1,hr.2,hc.1,hc.2,?_,?_,?_,Nat.zero_le _,?_,by show 0≤1000;omega,by show 0≤1000;omega,?_,?_,?_,?_,?_,fun M h=>(by cases h),h1,h2⟩
 ·show 0<r;omega
 ·show 0<c;omega
 ·show 0<r;omega
 ·show r-1<r;omega
 ·show 0<r;omega
 ·show 0<c;omega
 ·show(List.replicate r (List.replicate c blank)).length=r;simp
 ·intro l hl;have:=(List.mem_replicate.1 hl).2;rw[this];simp;rfl
 ·show(tabs0 c).length=c;simp[tabs0]
def PS.new:PS:=⟨0,false,false,false,false,[]⟩
def GP.new(r c:Nat):GP:=⟨G.fresh r c [],PS.new,[]⟩
theorem size_s(d:Nat)(H:Heap){r c:Nat}(hr:1≤r∧r≤60)(hc:1≤c∧c≤120):X (d+1) n_29 [.int .i64 (r:Int),.int .i64 (c:Int)] H=some (.bool true,H):=by rw[grid_size_eq,if_pos (decide_eq_true (by omega)),if_pos (decide_eq_true (by omega)),if_pos (decide_eq_true (by omega)),decide_eq_true (show(c:Int)≤120 by omega)]
theorem New_s(d:Nat){H:Heap}(hH:3<H.next){r c:Nat}(hr:1≤r∧r≤60)(hc:1≤c∧c≤120):∃H' A,X (d+7) n_13 [.int .i64 (r:Int),.int .i64 (c:Int)] H=some (.tuple #[P0 A.D.p,.int .i64 0],H')∧Gr H' A (GP.new r c)∧Keep0 H H'∧(∀k,A.foot k→H.next≤k):=by
 rw[grid_New_eq,size_s (d+5) H hr hc];simp only[callK_s,asB_s];rw[if_neg (show¬(!true)=true by simp),vt_New_eq,utf_New_eq];simp only[newK_s,callK_s,P0,asP_s];have k1:Keep0 H (H.new (.cells [.slice none 0 0] t_143 false 0 false)):=Keep.new _ _;have g1:(H.new (.cells [.slice none 0 0] t_143 false 0 false)).get H.next=some (.cells [.slice none 0 0] t_143 false 0 false):=by simp
 have n1:(H.new (.cells [.slice none 0 0] t_143 false 0 false)).next=H.next+1:=by simp
 generalize H.new (.cells [.slice none 0 0] t_143 false 0 false)=H1 at*;have k2:Keep0 H1 (H1.new (.cells [.pointer (some ⟨H.next,0,none⟩),.int .i64 0,.bool false,.bool false,.bool false,.bool false,.slice none 0 0] t_125 false 0 false)):=Keep.new _ _;have g2:(H1.new (.cells [.pointer (some ⟨H.next,0,none⟩),.int .i64 0,.bool false,.bool false,.bool false,.bool false,.slice none 0 0] t_125 false 0 false)).get H1.next=some (.cells [.pointer (some ⟨H.next,0,none⟩),.int .i64 0,.bool false,.bool false,.bool false,.bool false,.slice none 0 0] t_125 false 0 false):=by simp
 have n2:(H1.new (.cells [.pointer (some ⟨H.next,0,none⟩),.int .i64 0,.bool false,.bool false,.bool false,.bool false,.slice none 0 0] t_125 false 0 false)).next=H1.next+1:=by simp
 generalize H1.new (.cells [.pointer (some ⟨H.next,0,none⟩),.int .i64 0,.bool false,.bool false,.bool false,.bool false,.slice none 0 0] t_125 false 0 false)=H2 at*;have g12:=k2.get (show H.next<H1.next by omega) g1;generalize hLL:[Value.int .i64 (r:Int),Value.int .i64 (c:Int),.slice none 0 0,.int .i64 0,.int .i64 0,.bool false,.int .i32 0,.int .i64 0,.int .i64 0,.int .i64 0,.int .i64 0,.int .i64 0,.bool false,.int .i32 0,.int .i64 0,.int .i64 0,.int .i64 0,.int .i64 0,.int .i64 0,.bool false,.bool false,.bool false,.slice none 0 0,.slice none 0 0,.int .i64 0,.int .i64 0,.bool false,.int .i32 0,.int .i64 0,.int .i64 0,.int .i64 0,.slice none 0 0,.pointer (some ⟨H1.next,0,none⟩)]=L;have k3:Keep0 H2 (H2.new (.cells L t_96 false 0 false)):=Keep.new _ _;have g3:(H2.new (.cells L t_96 false 0 false)).get H2.next=some (.cells L t_96 false 0 false):=by simp
 have n3:(H2.new (.cells L t_96 false 0 false)).next=H2.next+1:=by simp
 generalize H2.new (.cells L t_96 false 0 false)=H3 at*;obtain⟨H',D',e',rep,dp,dpp,kk,ff⟩:=reset_s d (p:=H2.next) (pp:=H1.next) (past:=Sl.nil) (pq:=[]) hr hc g3 (by rw[←hLL];rfl) (by rw[←hLL];rfl) (by rw[←hLL];rfl) (by rw[←hLL];rfl) (by rw[←hLL];rfl) (by omega) (.inl ⟨rfl,rfl⟩) ⟨by simp,by simp⟩ Sl.at_nil bl_nil fun k e=>absurd e Sl.at_nil;rw[show X (d+6) n_31 [.pointer (some ⟨H2.next,0,none⟩)] H3=some (.tuple #[],H')from e'];simp only[callK_s];have hf:∀k,D'.foot k→k=H2.next∨H3.next≤k:=fun k e=>by
  rcases ff k e with e|e|e|e
  ·exact .inl e
  ·exact absurd e Sl.at_nil
  ·exact absurd e bl_nil
  ·exact .inr e
 have hkS:∀k,(k=H2.next∨Sl.nil.at k∨bl [] k)→k=H2.next:=fun k e=>by
  rcases e with e|e|e
  ·exact e
  ·exact absurd e Sl.at_nil
  ·exact absurd e bl_nil
 have kk3:=kk.1;have gp:H'.get H1.next=some (.cells (psL PS.new H.next Sl.nil) t_125 false 0 false):=(kk.2 H1.next (by omega) fun e=>by have:=hkS _ e;omega).trans (k3.get (by omega) g2)
 have gd:H'.get H.next=some (.cells [Sl.nil.v] t_143 false 0 false):=(kk.2 H.next (by omega) fun e=>by have:=hkS _ e;omega).trans (k3.get (by omega) g12)
 have hfoot:∀k,(⟨D',H.next,Sl.nil,Sl.nil⟩:GA).foot k→H.next≤k:=fun k e=>by
  rcases e with e|e|e|e|e
  ·have:=hf k e;omega
  ·have e':k=D'.pp:=e;omega
  ·have e':k=H.next:=e
   omega
  ·exact absurd e Sl.at_nil
  ·exact absurd e Sl.at_nil
 refine⟨H',⟨D',H.next,Sl.nil,Sl.nil⟩,by rw[show(⟨D',H.next,Sl.nil,Sl.nil⟩:GA).D.p=H2.next from dp],⟨rep,WF.fresh hr hc (by simp) (by simp),?_,fun k e=>by have:=hfoot k e;omega,?_,?_,fun k e=>absurd e Sl.at_nil,fun k e=>absurd e Sl.at_nil⟩,?_,hfoot⟩
 ·show PD H' D'.pp H.next Sl.nil Sl.nil PS.new []
  rw[dpp];exact⟨⟨gp,by omega,.inl ⟨rfl,rfl⟩,Sl.at_nil⟩,fun h=>absurd h (by decide),⟨⟨_,_,_,gd⟩,by omega,.inl ⟨rfl,rfl⟩,Sl.at_nil⟩,by simp,by omega,Sl.at_nil,Sl.at_nil,fun k e=>absurd e Sl.at_nil,hH⟩
 ·show¬D'.foot D'.pp;rw[dpp];intro e;have:=hf _ e;omega
 ·show¬D'.foot H.next
  intro e;have:=hf _ e;omega
 ·exact(((k1.trans k2).trans k3).fresh (kk.mono (T:=fun k=>k=H2.next) fun k _ e=>hkS k e) fun k e=>by have e':k=H2.next:=e;omega)
def curL(row col:Nat)(due:Bool)(st:Cl):List Value:=[.int .i64 row,.int .i64 col,.bool due,.int .i32 st.r,.int .i64 st.f,.int .i64 st.b,.int .i64 st.s]
section
variable{H:Heap}{D:GD}{g:G}(h:Rep H D g)
include h
theorem Rep.lda3:ldA H ⟨D.p,3,none⟩ 7=some (.agg ⟨curL g.c.row g.c.col g.c.due g.c.st⟩):=by unfold ldA;rw[ldN_s h.get (by show 3+7≤33;omega)];rfl
theorem Rep.lda10:ldA H ⟨D.p,10,none⟩ 7=some (.agg ⟨curL g.c.srow g.c.scol g.c.sdue g.c.sst⟩):=by unfold ldA;rw[ldN_s h.get (by show 10+7≤33;omega)];rfl
theorem Rep.lda24:ldA H ⟨D.p,24,none⟩ 7=some (.agg ⟨curL g.c.arow g.c.acol g.c.adue g.c.ast⟩):=by unfold ldA;rw[ldN_s h.get (by show 24+7≤33;omega)];rfl
theorem Rep.sta3(row col:Nat)(due:Bool)(st:Cl):∃H',(∀K,effK (.store 7) [.pointer (some ⟨D.p,3,none⟩),.agg ⟨curL row col due st⟩] H K=K (.tuple #[]) H')∧Rep H' D {g with c:={g.c with row:=row,col:=col,due:=due,st:=st}}∧Stp H D H' D:=by refine⟨H.put D.p (.cells (gridL {g.c with row:=row,col:=col,due:=due,st:=st} D) t_96 false 0 false),fun K=>?_,h.setc _,Stp.setc h _⟩;simp only[effK];rw[if_neg (by omega),if_pos ⟨rfl,rfl,by omega⟩,show H.stN ⟨D.p,3,none⟩ (cellsL (.agg ⟨curL row col due st⟩))=some (H.put D.p (.cells (gridL {g.c with row:=row,col:=col,due:=due,st:=st} D) t_96 false 0 false))from by simp only[Heap.stN,h.get];rfl];rfl
theorem Rep.sta10(row col:Nat)(due:Bool)(st:Cl):∃H',(∀K,effK (.store 7) [.pointer (some ⟨D.p,10,none⟩),.agg ⟨curL row col due st⟩] H K=K (.tuple #[]) H')∧Rep H' D {g with c:={g.c with srow:=row,scol:=col,sdue:=due,sst:=st}}∧Stp H D H' D:=by refine⟨H.put D.p (.cells (gridL {g.c with srow:=row,scol:=col,sdue:=due,sst:=st} D) t_96 false 0 false),fun K=>?_,h.setc _,Stp.setc h _⟩;simp only[effK];rw[if_neg (by omega),if_pos ⟨rfl,rfl,by omega⟩,show H.stN ⟨D.p,10,none⟩ (cellsL (.agg ⟨curL row col due st⟩))=some (H.put D.p (.cells (gridL {g.c with srow:=row,scol:=col,sdue:=due,sst:=st} D) t_96 false 0 false))from by simp only[Heap.stN,h.get];rfl];rfl
theorem move_b(d:Nat)(r1:1≤g.c.rows)(r2:g.c.rows≤60)(c1:1≤g.c.cols)(c2:g.c.cols≤120)(row col:Int):∃H',X (d+1) n_75 [P0 D.p,.int .i64 row,.int .i64 col] H=some (.tuple #[],H')∧Rep H' D (g.move row col)∧Stp H D H' D:=by
 rw[grid_Grid_move_eq,h.l0,h.l1];simp only[optK_s,asI_s];have e1:(if(IntKind.wrap .i64 ((g.c.rows:Int)-1))<(if row<0 then 0 else row)then(IntKind.wrap .i64 ((g.c.rows:Int)-1))else(if row<0 then 0 else row))=(((min (max row 0) ((g.c.rows:Int)-1)).toNat:Nat):Int):=by rw[w64 (by omega)];split<;>split<;>omega
 have e2:(if(IntKind.wrap .i64 ((g.c.cols:Int)-1))<(if col<0 then 0 else col)then(IntKind.wrap .i64 ((g.c.cols:Int)-1))else(if col<0 then 0 else col))=(((min (max col 0) ((g.c.cols:Int)-1)).toNat:Nat):Int):=by rw[w64 (by omega)];split<;>split<;>omega
 rw[e1,e2];obtain⟨H1,f1,h1,s1⟩:=h.s3 (min (max row 0) ((g.c.rows:Int)-1)).toNat;rw[f1];simp only[optK_s];obtain⟨H2,f2,h2,s2⟩:=h1.s4 (min (max col 0) ((g.c.cols:Int)-1)).toNat;rw[f2];simp only[optK_s];obtain⟨H3,f3,h3,s3⟩:=h2.s5 false;rw[f3];simp only[optK_s];exact⟨H3,rfl,h3,(s1.trans s2).trans s3⟩
theorem Rep.tabset(hn:0<g.tabs.length){i:Nat}(hi:i<g.tabs.length)(v:Bool):∃b H',D.tabs.a=some ⟨b,0,none⟩∧D.tabs.n=g.tabs.length∧Heap.st1 H (ap ⟨b,0,none⟩ (((i:Int).toNat)*1)) (.bool v)=some H'∧Rep H' D {g with tabs:=g.tabs.set i v}∧Stp H D H' D:=by
 have hl:=h.ta.n;rw[List.length_map]at hl;obtain⟨b,Z,v0,hcc⟩:=h.ta.vw (by rw[List.length_map];omega);have hat:=v0.at;obtain⟨H',e,v',k',n'⟩:=v0.st1 (x:=.bool v) (i:=i) (by simpa using hi);have hS:∀k,(fun k=>k=b) k→D.cmp 3 k:=fun k e=>by have e':k=b:=e;subst e';exact hat
 refine⟨b,H',v0.sa,by omega,by rw[show ap ⟨b,0,none⟩ (((i:Int).toNat)*1)=⟨b,([]:List Value).length+i,none⟩by simp[ap]];exact e,?_,Stp.of k' fun k e=>⟨3,hS k e⟩⟩;refine⟨h.o0 k' hS (by decide),by have:=k'.1;have:=h.lt;show D.p<_;omega,h.o1 k' hS (by decide),h.o2 k' hS (by decide),h.cL,?_,h.o4 k' hS (by decide),h.o5 k' hS (by decide),h.o6 k' hS (by decide),h.o7 k' hS (by decide),h.pL,h.sep⟩;refine .inr ⟨b,Z,?_,hcc⟩;rw[←List.map_set]at v';exact v'
end
def G.save(g:G):G:={g with c:={g.c with srow:=g.c.row,scol:=g.c.col,sdue:=g.c.due,sst:=g.c.st}}
def G.restore(g:G):G:=(({g with c:={g.c with row:=g.c.srow,col:=g.c.scol,due:=g.c.sdue,st:=g.c.sst}}:G).move g.c.srow g.c.scol).due g.c.sdue
def G.esc(g:G)(r:Int):G:=if r=68∨r=69∨r=77 then g.esc3 r else if r=55 then g.save else if r=56 then g.restore else if r=99 then G.fresh g.c.rows g.c.cols g.past else if r=72 then {g with tabs:=g.tabs.set g.c.col true}else g
theorem WF.tabset{g:G}(w:WF g){l:List Bool}(hl:l.length=g.c.cols):WF {g with tabs:=l}:=by obtain⟨h1,h2,h3,h4,h5,h6,h7,h8,h9,h10,h11,h12,h13,h14,h15,h16,h17,h18,h19⟩:=w;exact⟨h1,h2,h3,h4,h5,h6,h7,h8,h9,h10,h11,h12,h13,h14,h15,hl,h17,h18,h19⟩
theorem WF.restore{g:G}(w:WF g):WF g.restore:=by have r1:=w.r1;have c1:=w.c1;obtain⟨h1,h2,h3,h4,h5,h6,h7,h8,h9,h10,h11,h12,h13,h14,h15,h16,h17,h18,h19⟩:=w;exact⟨h1,h2,h3,h4,by show(min (max (g.c.srow:Int) 0) ((g.c.rows:Int)-1)).toNat<g.c.rows;omega,by show(min (max (g.c.scol:Int) 0) ((g.c.cols:Int)-1)).toNat<g.c.cols;omega,h7,h8,h9,h10,h11,h12,h13,h14,h15,h16,h17,h18,h19⟩
theorem WF.esc{g:G}(w:WF g)(r:Int):WF (g.esc r):=by
 unfold G.esc;split; · exact w.esc3 r
 have:=w.row;have:=w.col;have:=w.r2;have:=w.c2;split; · exact w.sc rfl rfl w.row w.col w.top w.tb w.bot (by show g.c.row≤1000;omega) (by show g.c.col≤1000;omega) w.arow w.acol
 split; · exact w.restore
 split; · exact WF.fresh ⟨w.r1,w.r2⟩ ⟨w.c1,w.c2⟩ w.pn w.pw
 split; · exact w.tabset (by simpa using w.tn)
 exact w
theorem esc_s(d:Nat){H:Heap}{D:GD}{g:G}(h:Rep H D g)(w:WF g)(r:Int):∃H' D',X (d+9) n_61 [P0 D.p,.int .i32 r] H=some (.tuple #[],H')∧Rep H' D' (g.esc r)∧Stp H D H' D':=by
 unfold G.esc;by_cases c0:r=68∨r=69∨r=77
 ·rw[if_pos c0];exact esc3_s d h w c0
 rw[if_neg c0,grid_Grid_esc_eq,if_neg (show¬decide (r=68)=true from dneg (by omega)),if_neg (show¬decide (r=69)=true from dneg (by omega)),if_neg (show¬decide (r=77)=true from dneg (by omega))];by_cases c1:r=55
 ·rw[if_pos (show decide (r=55)=true from decide_eq_true c1),if_pos c1,h.lda3];simp only[optK_s,asA_s];obtain⟨H',e,h',s'⟩:=h.sta10 g.c.row g.c.col g.c.due g.c.st;rw[e];exact⟨H',D,rfl,h',s'⟩
 rw[if_neg (show¬decide (r=55)=true from dneg c1),if_neg c1];by_cases c2:r=56
 ·rw[if_pos (show decide (r=56)=true from decide_eq_true c2),if_pos c2,h.l12];simp only[optK_s,asB_s];rw[h.lda10];simp only[optK_s,asA_s];obtain⟨H1,e1,h1,s1⟩:=h.sta3 g.c.srow g.c.scol g.c.sdue g.c.sst;rw[e1,h1.l3,h1.l4];simp only[optK_s,asI_s];obtain⟨H2,e2,h2,s2⟩:=move_b h1 (d+7) w.r1 w.r2 w.c1 w.c2 g.c.srow g.c.scol;rw[e2];simp only[callK_s];obtain⟨H3,e3,h3,s3⟩:=h2.s5 g.c.sdue;rw[e3];exact⟨H3,D,rfl,h3,(s1.trans s2).trans s3⟩
 rw[if_neg (show¬decide (r=56)=true from dneg c2),if_neg c2];by_cases c3:r=99
 ·rw[if_pos (show decide (r=99)=true from decide_eq_true c3),if_pos c3];obtain⟨H',D',e,h',p1,p2,k',f'⟩:=reset_s (d+2) (p:=D.p) (pp:=D.pp) (r:=g.c.rows) (c:=g.c.cols) ⟨w.r1,w.r2⟩ ⟨w.c1,w.c2⟩ h.get rfl rfl rfl rfl rfl h.lt h.po h.pr (fun e=>absurd (h.sep 0 6 _ rfl e) (by decide)) (fun e=>absurd (h.sep 0 7 _ rfl e) (by decide)) (fun k e e'=>absurd (h.sep 6 7 k e e') (by decide));rw[h.pL]at h';rw[e];refine⟨H',D',rfl,h',⟨p1,p2,k'.mono fun k _ e=>?_,fun k e=>?_⟩⟩
  ·rcases e with e|e|e
   ·exact⟨0,e⟩
   ·exact⟨6,e⟩
   ·exact⟨7,e⟩
  ·rcases f' k e with e|e|e|e
   ·exact .inl ⟨0,e⟩
   ·exact .inl ⟨6,e⟩
   ·exact .inl ⟨7,e⟩
   ·exact .inr e
 rw[if_neg (show¬decide (r=99)=true from dneg c3),if_neg c3];by_cases c4:r=72
 ·have hc:=w.col;have ht:=w.tn;rw[if_pos (show decide (r=72)=true from decide_eq_true c4),if_pos c4,h.l22];simp only[optK_s,asSL_k];rw[h.l4];simp only[optK_s,asI_s];obtain⟨b,H',e1,e2,e3,h',s'⟩:=h.tabset (by omega) (i:=g.c.col) (by omega) true;rw[e1];simp only[optK_s];rw[if_pos (show(0:Int)≤(g.c.col:Int)∧(g.c.col:Int)<(D.tabs.n:Int)by omega),e3];exact⟨H',D,rfl,h',s'⟩
 rw[if_neg (show¬decide (r=72)=true from dneg c4),if_neg c4];exact⟨H,D,rfl,h,Stp.refl _ _⟩
theorem raw1{H:Heap}{p i:Nat}{c c':Sc}{D D':GD}{v:Value}(hg:H.get p=some (.cells (gridL c D) t_96 false 0 false))(hi:i<33)(e:(gridL c D).set i v=gridL c' D'):∃H',Heap.st1 H ⟨p,i,none⟩ v=some H'∧H'.get p=some (.cells (gridL c' D') t_96 false 0 false)∧Keep (fun k=>k=p) H H'∧H'.next=H.next:=
 ⟨H.put p (.cells (gridL c' D') t_96 false 0 false),by rw[st1_s hg hi (by omega),e],by simp,Keep.put _ _ _ rfl,rfl⟩
theorem raw7{H:Heap}{p i:Nat}{c c':Sc}{D D':GD}{row col:Nat}{due:Bool}{st:Cl}(hg:H.get p=some (.cells (gridL c D) t_96 false 0 false))(hi:i+7≤33)(e:splice (gridL c D) i (curL row col due st)=gridL c' D'):∃H',H.stN ⟨p,i,none⟩ (curL row col due st)=some H'∧(∀K,effK (.store 7) [.pointer (some ⟨p,i,none⟩),.agg ⟨curL row col due st⟩] H K=K (.tuple #[]) H')∧H'.get p=some (.cells (gridL c' D') t_96 false 0 false)∧Keep (fun k=>k=p) H H'∧H'.next=H.next:=by
 have es:H.stN ⟨p,i,none⟩ (curL row col due st)=some (H.put p (.cells (gridL c' D') t_96 false 0 false)):=by simp only[Heap.stN,hg];rw[if_pos (show i+(curL row col due st).length≤(gridL c D).length∧0≤i from⟨hi,by omega⟩),e]
 refine⟨_,es,fun K=>?_,by simp,Keep.put _ _ _ rfl,rfl⟩;simp only[effK];rw[if_neg (by omega),if_pos ⟨rfl,rfl,by omega⟩,show H.stN ⟨p,i,none⟩ (cellsL (.agg ⟨curL row col due st⟩))=_ from es];rfl
def G.alternate(g:G)(on:Bool):G:=match on,g.other with
 |true,none=>{g with other:=some g.L,L:=List.replicate g.c.rows (List.replicate g.c.cols blank),c:={g.c with arow:=g.c.row,acol:=g.c.col,adue:=g.c.due,ast:=g.c.st}}
 |false,some M=>{g with L:=M,other:=none,c:={g.c with row:=g.c.arow,col:=g.c.acol,due:=g.c.adue,st:=g.c.ast,arow:=0,acol:=0,adue:=false,ast:=zeroC}}
 |_,_=>g
theorem WF.alternate{g:G}(w:WF g)(on:Bool):WF (g.alternate on):=by
 have r1:=w.r1;have c1:=w.c1;obtain⟨gc,gL,gt,go,gp⟩:=g;obtain⟨h1,h2,h3,h4,h5,h6,h7,h8,h9,h10,h11,h12,h13,h14,h15,h16,h17,h18,h19⟩:=w;cases on with
 |true=>
  cases go with
  |none=>
   refine⟨h1,h2,h3,h4,h5,h6,h7,h8,h9,h10,h11,h5,h6,by simp[G.alternate],fun l hl=>?_,h16,fun M hM=>?_,h18,h19⟩
   ·simp only[G.alternate,List.mem_replicate]at hl;rw[hl.2];simp[G.alternate]
   ·simp only[G.alternate,Option.some.injEq]at hM;subst hM;exact⟨h14,h15⟩
  |some M=>exact⟨h1,h2,h3,h4,h5,h6,h7,h8,h9,h10,h11,h12,h13,h14,h15,h16,h17,h18,h19⟩
 |false=>
  cases go with
  |none=>exact⟨h1,h2,h3,h4,h5,h6,h7,h8,h9,h10,h11,h12,h13,h14,h15,h16,h17,h18,h19⟩
  |some M=>obtain⟨m1,m2⟩:=h17 M rfl;exact⟨h1,h2,h3,h4,h12,h13,h7,h8,h9,h10,h11,r1,c1,m1,m2,h16,fun M hM=>by simp[G.alternate]at hM,h18,h19⟩
theorem alternate_s(d:Nat){H:Heap}{D:GD}{g:G}(h:Rep H D g)(w:WF g)(on:Bool):
  ∃H' D',X (d+6) n_77 [P0 D.p,.bool on] H=some (.tuple #[],H')∧Rep H' D' (g.alternate on)∧Stp H D H' D':=by
 have r1:=w.r1;have r2:=w.r2;have c2:=w.c2;have hql:=h.ql;have hLn:=w.Ln;have hne:D.cells.a≠none:=h.co.some (by intro e;rw[e]at hql;simp at hql;omega);have hp:=h.lt;rw[grid_Grid_alternate_eq];cases on with
 |true=>
  rw[if_pos rfl,h.l23];simp only[optK_s,asSL_k];cases ho:g.other with
  |some M=>
   have hoo:=h.oo;rw[ho]at hoo;rw[show D.other.a.isNone=false by cases h:D.other.a with
    |none=>exact absurd h hoo.1
    |some _=>rfl,jn_eq,if_neg ff,if_neg (show¬(!true)=true by simp),jo_eq,if_neg ff]
   have e:g.alternate true=g:=by unfold G.alternate;rw[ho]
   rw[e];exact⟨H,D,rfl,h,Stp.refl _ _⟩
  |none=>
   have hoo:=h.oo;rw[ho]at hoo;obtain⟨ho1,ho2⟩:=hoo;rw[ho1,show Sl.nil.a.isNone=true from rfl,jn_eq,if_pos rfl,h.l2];simp only[optK_s,asSL_k];rw[h.lda3];simp only[optK_s,asA_s]
   let c1:Sc:={g.c with arow:=g.c.row,acol:=g.c.col,adue:=g.c.due,ast:=g.c.st}
   obtain⟨H5,e5,g5,k5,n5⟩:=raw1 (i:=23) (v:=D.cells.v) (c':=g.c) (D':={D with other:=D.cells}) h.get (by omega) rfl;rw[e5];simp only[optK_s];obtain⟨H7,_,e7,g7,k7,n7⟩:=raw7 (i:=24) (row:=g.c.row) (col:=g.c.col) (due:=g.c.due) (st:=g.c.st) (c':=c1) (D':={D with other:=D.cells}) g5 (by omega) rfl;rw[e7,(ld1_s g7).trans (show(gridL c1 {D with other:=D.cells})[0]?=some (.int .i64 (g.c.rows:Int))from rfl)];simp only[optK_s,asI_s];rw[(ld1_s g7).trans (show(gridL c1 {D with other:=D.cells})[1]?=some (.int .i64 (g.c.cols:Int))from rfl)];simp only[optK_s,asI_s];obtain⟨s,p,H13,e13,o13,r13,L13,fs,fp,dj,k13⟩:=sheet_s d g.c.rows g.c.cols (by omega) (by omega) H7;rw[e13];simp only[callK_s,asSL_k];have g13:=k13.get (by omega) g7
   let D':GD:={D with cells:=s,q:=p,other:=D.cells,oq:=D.q}
   obtain⟨H15,e15,g15,k15,n15⟩:=raw1 (i:=2) (v:=s.v) (c':=c1) (D':=D') g13 (by omega) rfl;rw[e15];simp only[optK_s];have n13:=k13.1;have kk:Keep (fun k=>k=D.p) H H15:=((k5.trans k7 fun _ _ e=>e).trans k13.to fun _ _ e=>e).trans k15 fun _ _ e=>e;have ap:∀i k,i≠0→D.cmp i k→¬(k=D.p):=fun i k h0 e e'=>h0 (h.sep _ _ _ (show D.cmp i D.p from e'▸e) (show D.cmp 0 D.p from rfl));have e0:g.alternate true={g with other:=some g.L,L:=List.replicate g.c.rows (List.replicate g.c.cols blank),c:=c1}:=by unfold G.alternate;rw[ho]
   rw[e0];have cs:∀i k,D'.cmp i k→(i=1∧s.at k∧H.next≤k)∨(i=2∧bl p k∧H.next≤k)∨(i=4∧D.cmp 1 k∧k<H.next)∨(i=5∧D.cmp 2 k∧k<H.next)∨(i≠1∧i≠2∧i≠4∧i≠5∧D.cmp i k∧k<H.next):=fun i k e=>by
    match i,e with
    |0,e=>exact .inr (.inr (.inr (.inr ⟨by decide,by decide,by decide,by decide,e,cmp_lt h (i:=0) e⟩)))
    |1,e=>exact .inl ⟨rfl,e,by have:=fs k e;omega⟩
    |2,e=>exact .inr (.inl ⟨rfl,e,by have:=fp k e;omega⟩)
    |3,e=>exact .inr (.inr (.inr (.inr ⟨by decide,by decide,by decide,by decide,e,cmp_lt h (i:=3) e⟩)))
    |4,e=>exact .inr (.inr (.inl ⟨rfl,e,cmp_lt h (i:=1) e⟩))
    |5,e=>exact .inr (.inr (.inr (.inl ⟨rfl,e,cmp_lt h (i:=2) e⟩)))
    |6,e=>exact .inr (.inr (.inr (.inr ⟨by decide,by decide,by decide,by decide,e,cmp_lt h (i:=6) e⟩)))
    |7,e=>exact .inr (.inr (.inr (.inr ⟨by decide,by decide,by decide,by decide,e,cmp_lt h (i:=7) e⟩)))
   refine⟨H15,D',rfl,⟨g15,by show D.p<_;omega,Whole.keep o13 k15 fun k e e'=>by have:=fs k e;have e'':k=D.p:=e';omega,r13.keep k15 fun k e e'=>by have:=fp k e;have e'':k=D.p:=e';omega,L13,TabO.keep h.ta kk (ap 3 · (by decide)),
    ⟨hne,Whole.keep h.co kk (ap 1 · (by decide)),h.cL⟩,h.cr.keep kk (ap 2 · (by decide)),h.po.keep kk (ap 6 · (by decide)),h.pr.keep kk (ap 7 · (by decide)),h.pL,fun i j k a0 b0=>?_⟩,⟨rfl,rfl,kk.mono fun k _ e=>⟨0,e⟩,fun k ⟨i,e⟩=>?_⟩⟩
   ·rcases cs i k a0 with ⟨rfl,a,u⟩|⟨rfl,a,u⟩|⟨rfl,a,u⟩|⟨rfl,a,u⟩|⟨i1,i2,i4,i5,a,u⟩<;>rcases cs j k b0 with ⟨rfl,b,v⟩|⟨rfl,b,v⟩|⟨rfl,b,v⟩|⟨rfl,b,v⟩|⟨j1,j2,j4,j5,b,v⟩<;>
     first|rfl|(exfalso;omega)|exact absurd b (dj k a)|exact absurd a (dj k b)|exact h.sep _ _ k a b|(have:=h.sep _ _ k a b;omega)
   ·rcases cs i k e with ⟨_,_,u⟩|⟨_,_,u⟩|⟨_,a,_⟩|⟨_,a,_⟩|⟨_,_,_,_,a,_⟩
    ·exact .inr u
    ·exact .inr u
    ·exact .inl ⟨1,a⟩
    ·exact .inl ⟨2,a⟩
    ·exact .inl ⟨i,a⟩
 |false=>
  rw[if_neg ff,jn_eq,if_neg ff,if_pos (show(!false)=true from rfl),h.l23];simp only[optK_s,asSL_k];cases ho:g.other with
  |none=>
   have hoo:=h.oo;rw[ho]at hoo;rw[hoo.1,show(!Sl.nil.a.isNone)=false from rfl,jo_eq,if_neg ff];have e:g.alternate false=g:=by unfold G.alternate;rw[ho]
   rw[e];exact⟨H,D,rfl,h,Stp.refl _ _⟩
  |some M=>
   have hoo:=h.oo;rw[ho]at hoo;obtain⟨ho1,ho2,ho3⟩:=hoo;rw[show(!D.other.a.isNone)=true by cases h:D.other.a with
    |none=>exact absurd h ho1
    |some _=>rfl,jo_eq,if_pos rfl,h.l23]
   simp only[optK_s,asSL_k];rw[h.lda24];simp only[optK_s,asA_s]
   let c1:Sc:={g.c with row:=g.c.arow,col:=g.c.acol,due:=g.c.adue,st:=g.c.ast}
   let c2:Sc:={c1 with arow:=0,acol:=0,adue:=false,ast:=zeroC}
   let D':GD:={D with cells:=D.other,q:=D.oq,other:=Sl.nil,oq:=[]}
   obtain⟨H5,e5,g5,k5,n5⟩:=raw1 (i:=2) (v:=D.other.v) (c':=g.c) (D':={D with cells:=D.other}) h.get (by omega) rfl;rw[e5];simp only[optK_s];obtain⟨H7,_,e7,g7,k7,n7⟩:=raw7 (i:=3) (row:=g.c.arow) (col:=g.c.acol) (due:=g.c.adue) (st:=g.c.ast) (c':=c1) (D':={D with cells:=D.other}) g5 (by omega) rfl;rw[e7];obtain⟨H8,e8,g8,k8,n8⟩:=raw1 (i:=23) (v:=.slice none 0 0) (c':=c1) (D':=D') g7 (by omega) rfl;rw[e8];simp only[optK_s];obtain⟨H9,e9,_,g9,k9,n9⟩:=raw7 (i:=24) (row:=0) (col:=0) (due:=false) (st:=zeroC) (c':=c2) (D':=D') g8 (by omega) rfl;rw[show Heap.stN H8 ⟨D.p,24,none⟩ [.int .i64 0,.int .i64 0,.bool false,.int .i32 0,.int .i64 0,.int .i64 0,.int .i64 0]=some H9 from e9];simp only[optK_s];have kk:Keep (fun k=>k=D.p) H H9:=((k5.trans k7 fun _ _ e=>e).trans k8 fun _ _ e=>e).trans k9 fun _ _ e=>e;have ap:∀i k,i≠0→D.cmp i k→¬(k=D.p):=fun i k h0 e e'=>h0 (h.sep _ _ _ (show D.cmp i D.p from e'▸e) (show D.cmp 0 D.p from rfl));have e0:g.alternate false={g with L:=M,other:=none,c:=c2}:=by unfold G.alternate;rw[ho]
   rw[e0];have cs:∀i k,D'.cmp i k→(i=1∧D.cmp 4 k)∨(i=2∧D.cmp 5 k)∨(i≠1∧i≠2∧i≠4∧i≠5∧D.cmp i k):=fun i k e=>by
    match i,e with
    |0,e=>exact .inr (.inr ⟨by decide,by decide,by decide,by decide,e⟩)
    |1,e=>exact .inl ⟨rfl,e⟩
    |2,e=>exact .inr (.inl ⟨rfl,e⟩)
    |3,e=>exact .inr (.inr ⟨by decide,by decide,by decide,by decide,e⟩)
    |4,e=>exact absurd e Sl.at_nil
    |5,e=>exact absurd e bl_nil
    |6,e=>exact .inr (.inr ⟨by decide,by decide,by decide,by decide,e⟩)
    |7,e=>exact .inr (.inr ⟨by decide,by decide,by decide,by decide,e⟩)
   refine⟨H9,D',rfl,⟨g9,by show D.p<_;omega,Whole.keep ho2 kk (ap 4 · (by decide)),h.or.keep kk (ap 5 · (by decide)),ho3,TabO.keep h.ta kk (ap 3 · (by decide)),⟨rfl,rfl⟩,⟨(fun x hx=>nomatch hx),List.nodup_nil⟩,h.po.keep kk (ap 6 · (by decide)),h.pr.keep kk (ap 7 · (by decide)),h.pL,fun i j k a0 b0=>?_⟩,⟨rfl,rfl,kk.mono fun k _ e=>⟨0,e⟩,fun k ⟨i,e⟩=>?_⟩⟩
   ·rcases cs i k a0 with ⟨rfl,a⟩|⟨rfl,a⟩|⟨i1,i2,i4,i5,a⟩<;>rcases cs j k b0 with ⟨rfl,b⟩|⟨rfl,b⟩|⟨j1,j2,j4,j5,b⟩<;>
     first|rfl|exact h.sep _ _ k a b|(have:=h.sep _ _ k a b;omega)
   ·rcases cs i k e with ⟨_,a⟩|⟨_,a⟩|⟨_,_,_,_,a⟩
    ·exact .inl ⟨4,a⟩
    ·exact .inl ⟨5,a⟩
    ·exact .inl ⟨i,a⟩
def G.mode(on:Bool)(g:G)(n:Int):G:=if n=7 then {g with c:={g.c with wrap:=on,due:=g.c.due&&on}}else if n=25 then {g with c:={g.c with hidden:= !on}}else if n=1049 then g.alternate on else g
def G.modes(g:G)(a:Act):G:=if a.rune=104∨a.rune=108 then a.params.foldl (G.mode (decide (a.rune=104))) g else g
theorem WF.mode{g:G}(w:WF g)(on:Bool)(n:Int):WF (g.mode on n):=by
 unfold G.mode;split; · exact w.sc rfl rfl w.row w.col w.top w.tb w.bot w.srow w.scol w.arow w.acol
 split; · exact w.sc rfl rfl w.row w.col w.top w.tb w.bot w.srow w.scol w.arow w.acol
 split; · exact w.alternate on
 exact w
theorem WF.foldl{α:Type}{f:G→α→G}(hf:∀g a,WF g→WF (f g a)):∀(l:List α) {g:G},WF g→WF (l.foldl f g):=fun l=>by
 induction l with
 |nil=>intro g w;exact w
 |cons a l ih=>intro g w;exact ih (hf g a w)
theorem WF.modes{g:G}(w:WF g)(a:Act):WF (g.modes a):=by
 unfold G.modes;split
 ·exact WF.foldl (fun g n w=>w.mode _ n) _ w
 ·exact w
theorem modes_loop(d:Nat){y:Sl}{l:List Int}(hl:l.length≤1000)(on:Bool):∀(r:List Int) (m i:Nat) {H:Heap} {D:GD} {g:G},r.length<m→l.drop i=r→i+r.length=l.length→Rep H D g→WF g→Whole H y (intL l) t_3 1→(∀k,y.at k→¬D.foot k)→
  ∃H' D',jh (d+6) m D.p on y (y.n:Int) (i:Int) H=some (.tuple #[],H')∧Rep H' D' (r.foldl (G.mode on) g)∧Stp H D H' D':=fun r=>by
 induction r with
 |nil=>intro m i H D g hm _ hi h w wy hy;obtain⟨m,rfl⟩:∃m',m=m'+1:=⟨m-1,by simp at hm;omega⟩;have hn:=intN wy;simp only[List.length_nil]at hi;rw[jh_s,if_neg (show¬decide ((i:Int)<(y.n:Int))=true from dneg (by omega))];exact⟨H,D,rfl,h,Stp.refl _ _⟩
 |cons n r ih=>
  intro m i H D g hm hd hi h w wy hy;simp only[List.length_cons]at hm hi;obtain⟨m,rfl⟩:∃m',m=m'+1:=⟨m-1,by omega⟩;have hc:l[i]?=some n:=by have:=congrArg (fun x=>x[0]?) hd;simpa using this
  have hdr:l.drop (i+1)=r:=by rw[←List.drop_drop,hd];rfl
  have hn:=intN wy;obtain⟨b,ha,hl1⟩:=intAt wy hc;have next:∀{H1:Heap} {D1:GD},Rep H1 D1 (g.mode on n)→Stp H D H1 D1→∃H' D',jd (d+6) m D.p on y (y.n:Int) (i:Int) H1=some (.tuple #[],H')∧Rep H' D' ((n::r).foldl (G.mode on) g)∧Stp H D H' D':=fun{H1 D1} h1 s1=>by
   rw[jd_eq,wi (by omega)];have hyl:∀k,y.at k→k<H.next:=fun k e=>Whole.lt wy e
   obtain⟨H',D',e',h',s'⟩:=ih m (i+1) (by omega) hdr (by omega) h1 (w.mode on n) (Whole.keep wy s1.kp hy) (fun k e e'=>(s1.ft k e').elim (hy k e) (fun e'=>by have:=hyl k e;omega));rw[s1.p]at e';exact⟨H',D',e',h',s1.trans s'⟩
  rw[jh_s,if_pos (show decide ((i:Int)<(y.n:Int))=true from decide_eq_true (by omega)),ha];simp only[optK_s];rw[if_pos (show(0:Int)≤(i:Int)∧(i:Int)<(y.n:Int)by omega),hl1];simp only[optK_s,asI_s];by_cases c7:n=7
  ·rw[if_pos (show decide (n=7)=true from decide_eq_true c7)];obtain⟨H1,e1,h1,s1⟩:=h.s19 on;rw[e1];simp only[optK_s];rw[h1.l5];simp only[optK_s,asB_s];by_cases cd:g.c.due=true
   ·rw[if_pos (show({g with c:={g.c with wrap:=on}}:G).c.due=true from cd)];obtain⟨H2,e2,h2,s2⟩:=h1.s5 on;rw[e2];simp only[optK_s];refine next ?_ (s1.trans s2)
    have e:g.mode on n={g with c:={g.c with wrap:=on,due:=on}}:=by unfold G.mode;rw[if_pos c7,cd,Bool.true_and]
    rw[e];exact h2
   ·have cd':g.c.due=false:=by simpa using cd
    rw[if_neg (show¬({g with c:={g.c with wrap:=on}}:G).c.due=true from cd)];obtain⟨H2,e2,h2,s2⟩:=h1.s5 false;rw[e2];simp only[optK_s];refine next ?_ (s1.trans s2)
    have e:g.mode on n={g with c:={g.c with wrap:=on,due:=false}}:=by unfold G.mode;rw[if_pos c7,cd',Bool.false_and]
    rw[e];exact h2
  rw[if_neg (show¬decide (n=7)=true from dneg c7)];by_cases c25:n=25
  ·rw[if_pos (show decide (n=25)=true from decide_eq_true c25)];obtain⟨H1,e1,h1,s1⟩:=h.s21 (!on);rw[e1];simp only[optK_s];refine next ?_ s1
   have e:g.mode on n={g with c:={g.c with hidden:= !on}}:=by unfold G.mode;rw[if_neg c7,if_pos c25]
   rw[e];exact h1
  rw[if_neg (show¬decide (n=25)=true from dneg c25)];by_cases cA:n=1049
  ·rw[if_pos (show decide (n=1049)=true from decide_eq_true cA)];obtain⟨H1,D1,e1,h1,s1⟩:=alternate_s d h w on;rw[e1];simp only[callK_s];refine next ?_ s1
   have e:g.mode on n=g.alternate on:=by unfold G.mode;rw[if_neg c7,if_neg c25,if_pos cA]
   rw[e];exact h1
  rw[if_neg (show¬decide (n=1049)=true from dneg cA)];refine next ?_ (Stp.refl _ _)
  have e:g.mode on n=g:=by unfold G.mode;rw[if_neg c7,if_neg c25,if_neg cA]
  rw[e];exact h
theorem modes_s(d:Nat){H:Heap}{D:GD}{g:G}(h:Rep H D g)(w:WF g){a:Act}{y:Sl}(ok:a.ok)(wy:Whole H y (intL a.params) t_3 1)(hy:∀k,y.at k→¬D.foot k):∃H' D',X (d+7) n_62 [P0 D.p,.agg ⟨actL a y⟩] H=some (.tuple #[],H')∧Rep H' D' (g.modes a)∧Stp H D H' D':=by
 rw[grid_Grid_modes_eq,boxA];have k1:Keep0 H (H.new (.cells (actL a y) t_110 false 0 false)):=Keep.new _ _;have g1:(H.new (.cells (actL a y) t_110 false 0 false)).get H.next=some (.cells (actL a y) t_110 false 0 false):=by simp
 generalize H.new (.cells (actL a y) t_110 false 0 false)=H1 at*;have l1:Heap.ld1 H1 (ap ⟨H.next,0,none⟩ 1)=some (.int .i32 a.rune):=(ld1_s g1).trans rfl;have l3:Heap.ld1 H1 (ap ⟨H.next,0,none⟩ 3)=some y.v:=(ld1_s g1).trans rfl;simp only[P0,asP_s,optK_s];rw[l1];simp only[optK_s,asI_s];have go:a.rune=104∨a.rune=108→∃H' D',jh (d+6) NN D.p (decide (a.rune=104)) y (y.n:Int) 0 H1=some (.tuple #[],H')∧Rep H' D' (g.modes a)∧Stp H D H' D':=fun hr=>by have hl:=ok.1;obtain⟨H',D',e',h',s'⟩:=modes_loop d ok.1 (decide (a.rune=104)) a.params NN 0 (NN_big _ (by omega)) rfl (by omega) (h.new k1) w (Whole.keep wy k1 fun _ _ e=>e) hy;refine⟨H',D',e',?_,(Stp.new k1).trans s'⟩;unfold G.modes;rw[if_pos hr];exact h'
 by_cases c1:a.rune=104
 ·rw[if_neg (show¬(!decide (a.rune=104))=true by simp[c1]),j11_eq,if_neg ff];simp only[asP_s,optK_s];rw[l1];simp only[optK_s,asI_s];rw[l3];simp only[optK_s,asSL_k];exact go (.inl c1)
 ·rw[if_pos (show(!decide (a.rune=104))=true by simp[c1])];by_cases c2:a.rune=108
  ·rw[show(!decide (a.rune=108))=false by simp[c2],j11_eq,if_neg ff];simp only[asP_s,optK_s];rw[l1];simp only[optK_s,asI_s];rw[l3];simp only[optK_s,asSL_k];exact go (.inr c2)
  ·rw[show(!decide (a.rune=108))=true by simp[c2],j11_eq,if_pos rfl];unfold G.modes;rw[if_neg (by omega)];exact⟨H1,D,rfl,h.new k1,Stp.new k1⟩
def wipeL(l:List Cl)(f t:Nat):List Cl:=l.take f++(List.replicate (t-f) blank++l.drop t)
def G.wipe(g:G)(i f t:Nat):G:={g with L:=g.L.modify i fun l=>wipeL l f t}
theorem wipeL_len{l:List Cl}{f t:Nat}(h:f≤t)(h2:t≤l.length):(wipeL l f t).length=l.length:=by simp only[wipeL,List.length_append,List.length_take,List.length_replicate,List.length_drop];omega
theorem WF.modL{g:G}(w:WF g){i:Nat}{f:List Cl→List Cl}(h:∀l,l.length=g.c.cols→(f l).length=g.c.cols):WF {g with L:=g.L.modify i f}:=by
 refine w.setL (by simpa using w.Ln) fun l hl=>?_;obtain⟨j,hj,e⟩:=List.getElem_of_mem hl;rw[List.getElem_modify]at e;split at e
 ·rw[←e];exact h _ (w.Lw _ (List.getElem_mem _))
 ·rw[←e];exact w.Lw _ (List.getElem_mem _)
theorem WF.wipe{g:G}(w:WF g){i f t:Nat}(h:f≤t)(h2:t≤g.c.cols):WF (g.wipe i f t):=w.modL fun l hl=>by rw[wipeL_len h (by omega)];exact hl
theorem wipe_s(d:Nat){H:Heap}{D:GD}{g:G}(h:Rep H D g)(w:WF g){i f t:Nat}(hi:i<g.c.rows)(hf:f≤t)(ht:t≤g.c.cols):∃H' D',X (d+5) n_91 [P0 D.p,.int .i64 (i:Int),.int .i64 (f:Int),.int .i64 (t:Int)] H=some (.tuple #[],H')∧Rep H' D' (g.wipe i f t)∧Stp H D H' D':=by
 have c2:=w.c2;have r2:=w.r2;obtain⟨x,b,hx,hxL,hxn,hca,hcn,hld,hrow,hat⟩:=h.rowat w hi;rw[grid_Grid_wipe_eq,h.l2];simp only[optK_s,asSL_k];rw[hca];simp only[optK_s];have hap:ap ⟨b,0,none⟩ (((i:Int).toNat)*1)=⟨b,i,none⟩:=by simp[ap]
 rw[if_pos (show(0:Int)≤(i:Int)∧(i:Int)<(D.cells.n:Int)by omega),hap,hld];simp only[optK_s,asSL_k];have v:=hrow.cv;rw[v.s_lh hf (by omega)];simp only[optK_s,asSL_k];have vs:=v.sub hf (show t≤x.2.length by omega);rw[show IntKind.wrap .i64 ((t:Int)-(f:Int))=((t-f:Nat):Int)by rw[w64 (by omega)];omega];obtain⟨b9,H9,e9,hb9,r9,k9⟩:=line_s d (t-f) (by omega) H;rw[e9];simp only[callK_s,asSL_k];have vs9:=vs.keep k9 id;have hsn:((x.2.drop f).take (t-f)).length=t-f:=by rw[List.length_take,List.length_drop];omega
 have v9:=r9.cv;rw[show wsl b9 (List.replicate (t-f) blank).length=wsl b9 (t-f)by rw[List.length_replicate]]at v9;obtain⟨H12,e12,v12,k12,n12⟩:=vs9.copy (x:=wsl b9 (t-f)) (new:=List.replicate (t-f) blank) (by
  rw[hsn,show(wsl b9 (t-f)).n=t-f from rfl,Nat.min_self];have:=v9.src (n:=t-f) (by simp);rw[this,List.take_of_length_le (by simp)]) (by rw[hsn,List.length_replicate,show(wsl b9 (t-f)).n=t-f from rfl,Nat.min_self])
 rw[e12];simp only[asI_s];have h9:=h.new k9;have ld0:∀{H1:Heap},Keep0 H H1→readD (.load 1 false) [.pointer (some ⟨b,i,none⟩)] H1=some (wsl x.1 x.2.length).v:=fun{H1} k=>by obtain⟨x',b',hx',_,_,hca',_,hld',_,_⟩:=(h.new k).rowat w hi;rw[hx]at hx';cases hx';rw[hca]at hca';cases hca';exact hld'
 rw[show rdsOk [H,H9,H12] [⟨.subSl t_52 4 true true false,[(wsl x.1 x.2.length).v,.int .i64 (f:Int),.int .i64 (t:Int)],(subS (wsl x.1 x.2.length) f t 4).v,0,1⟩,⟨.load 1 false,[.pointer (some ⟨b,i,none⟩)],(wsl x.1 x.2.length).v,0,1⟩,⟨.load 1 false,[.pointer (some ⟨D.p,2,none⟩)],D.cells.v,0,1⟩]=true from by simp only[rdsOk,Bool.and_true];rw[show 1+1-0=2 from rfl,rdOk_2,rdOk_2,rdOk_2,rdAt_s rfl (v.s_lh hf (by omega)) (same_sl _ _ _),rdAt_s rfl ((v.keep k9 id).s_lh hf (by omega)) (same_sl _ _ _),rdAt_s rfl (ld0 (Keep.refl H)) (same_sl _ _ _),rdAt_s rfl (ld0 k9) (same_sl _ _ _),rdAt_s rfl (rd1 h.l2) (same_sl _ _ _),rdAt_s rfl (rd1 h9.l2) (same_sl _ _ _)];rfl];simp only[chk_s];have r12:=v12.row;have hre:[]++x.2.take f++(List.replicate (t-f) blank++((x.2.drop f).take (t-f)).drop (List.replicate (t-f) blank).length++(x.2.drop t++[]))=wipeL x.2 f t:=by have hd9:((x.2.drop f).take (t-f)).drop (List.replicate (t-f) blank).length=[]:=List.drop_eq_nil_of_le (by rw[hsn,List.length_replicate];exact Nat.le_refl _);rw[hd9];simp[wipeL]
 rw[hre]at r12;obtain⟨h12,s12⟩:=h9.rowput hx k12 r12 (wipeL_len hf (by omega));refine⟨H12,_,rfl,?_,(Stp.new k9).trans s12⟩;unfold G.wipe;rw[modify_at hxL];exact h12
def G.eraseLine(g:G)(p:Int):G:=if p=0 then g.wipe g.c.row g.c.col g.c.cols else if p=1 then g.wipe g.c.row 0 (g.c.col+1)else if p=2 then g.wipe g.c.row 0 g.c.cols else g
theorem WF.eraseLine{g:G}(w:WF g)(p:Int):WF (g.eraseLine p):=by
 have:=w.col;unfold G.eraseLine;split; · exact w.wipe (by omega) (Nat.le_refl _)
 split; · exact w.wipe (by omega) (by omega)
 split; · exact w.wipe (by omega) (Nat.le_refl _)
 exact w
theorem eraseLine_s(d:Nat){H:Heap}{D:GD}{g:G}(h:Rep H D g)(w:WF g)(p:Int):∃H' D',X (d+6) n_86 [P0 D.p,.int .i64 p] H=some (.tuple #[],H')∧Rep H' D' (g.eraseLine p)∧Stp H D H' D':=by
 have hc:=w.col;have hr:=w.row;have c2:=w.c2;rw[grid_Grid_eraseLine_eq];unfold G.eraseLine;by_cases c0:p=0
 ·rw[if_pos (show decide (p=0)=true from decide_eq_true c0),if_pos c0,h.l3,h.l4];simp only[optK_s,asI_s];rw[h.l1];simp only[optK_s,asI_s];obtain⟨H',D',e,h',s'⟩:=wipe_s d h w hr (show g.c.col≤g.c.cols by omega) (Nat.le_refl _);rw[e];exact⟨H',D',rfl,h',s'⟩
 rw[if_neg (show¬decide (p=0)=true from dneg c0),if_neg c0];by_cases c1:p=1
 ·rw[if_pos (show decide (p=1)=true from decide_eq_true c1),if_pos c1,h.l3,h.l4];simp only[optK_s,asI_s];obtain⟨H',D',e,h',s'⟩:=wipe_s d h w hr (f:=0) (t:=g.c.col+1) (by omega) (by omega);rw[wi (by omega),show(0:Int)=((0:Nat):Int)from rfl,e];exact⟨H',D',rfl,h',s'⟩
 rw[if_neg (show¬decide (p=1)=true from dneg c1),if_neg c1];by_cases c2:p=2
 ·rw[if_pos (show decide (p=2)=true from decide_eq_true c2),if_pos c2,h.l3];simp only[optK_s,asI_s];rw[h.l1];simp only[optK_s,asI_s];obtain⟨H',D',e,h',s'⟩:=wipe_s d h w hr (f:=0) (t:=g.c.cols) (by omega) (Nat.le_refl _);rw[show(0:Int)=((0:Nat):Int)from rfl,e];exact⟨H',D',rfl,h',s'⟩
 rw[if_neg (show¬decide (p=2)=true from dneg c2),if_neg c2];exact⟨H,D,rfl,h,Stp.refl _ _⟩
def gone(p:Int)(row i:Nat):Prop:=p=2∨(p=0∧row<i)∨(p=1∧i<row)
instance (p:Int) (row i:Nat):Decidable (gone p row i):=by unfold gone;infer_instance
def G.wipeIf(p:Int)(row:Nat)(g:G)(i:Nat):G:=if gone p row i then g.wipe i 0 g.c.cols else g
def G.erase(g:G)(p:Int):G:=if p<0∨2<p then(if p=3 then {g with past:=[]}else g)else(List.range g.c.rows).foldl (G.wipeIf p g.c.row) (g.eraseLine p)
theorem wipeIf_c(p:Int)(row:Nat)(g:G)(i:Nat):(g.wipeIf p row i).c=g.c:=by unfold G.wipeIf;split<;>rfl
theorem eraseLine_c(g:G)(p:Int):(g.eraseLine p).c=g.c:=by
 unfold G.eraseLine;split; · rfl
 split; · rfl
 split; · rfl
 rfl
theorem WF.nopast{g:G}(w:WF g):WF {g with past:=[]}:=by obtain⟨h1,h2,h3,h4,h5,h6,h7,h8,h9,h10,h11,h12,h13,h14,h15,h16,h17,h18,h19⟩:=w;exact⟨h1,h2,h3,h4,h5,h6,h7,h8,h9,h10,h11,h12,h13,h14,h15,h16,h17,by simp,fun l hl=>by cases hl⟩
theorem WF.wipeIf{g:G}(w:WF g)(p:Int)(row i:Nat):WF (g.wipeIf p row i):=by
 unfold G.wipeIf;split
 ·exact w.wipe (Nat.zero_le _) (Nat.le_refl _)
 ·exact w
theorem WF.erase{g:G}(w:WF g)(p:Int):WF (g.erase p):=by
 unfold G.erase;split
 ·split
  ·exact w.nopast
  ·exact w
 ·exact WF.foldl (fun g i w=>w.wipeIf p _ i) _ (w.eraseLine p)
theorem Rep.nopast{H:Heap}{D:GD}{g:G}(h:Rep H D g):∃H',Heap.st1 H ⟨D.p,31,none⟩ (.slice none 0 0)=some H'∧Rep H' {D with past:=Sl.nil,pq:=[]} {g with past:=[]}∧Stp H D H' {D with past:=Sl.nil,pq:=[]}:=by
 obtain⟨H1,e1,g1,k1,n1⟩:=raw1 (i:=31) (v:=.slice none 0 0) (c':=g.c) (D':={D with past:=Sl.nil,pq:=[]}) h.get (by omega) rfl;have hS:∀k,(fun k=>k=D.p) k→D.cmp 0 k:=fun k e=>e;have cs:∀i k,({D with past:=Sl.nil,pq:=[]}:GD).cmp i k→D.cmp i k:=fun i k e=>by
  rcases cmp_past e with ⟨_,e⟩|⟨_,e⟩|e
  ·exact absurd e Sl.at_nil
  ·exact absurd e bl_nil
  ·exact e
 exact⟨H1,e1,⟨g1,by have:=h.lt;show D.p<_;omega,h.o1 k1 hS (by decide),h.o2 k1 hS (by decide),h.cL,h.o3 k1 hS (by decide),h.o4 k1 hS (by decide),h.o5 k1 hS (by decide),.inl ⟨rfl,rfl⟩,⟨(fun x hx=>nomatch hx),List.nodup_nil⟩,rfl,fun i j k a b=>h.sep i j k (cs i k a) (cs j k b)⟩,⟨rfl,rfl,k1.mono fun k _ e=>⟨0,e⟩,fun k ⟨i,e⟩=>.inl ⟨i,cs i k e⟩⟩⟩
theorem erase_loop(d:Nat){p:Int}{rows row:Nat}(hr:rows≤60)(_hrow:row<rows):∀(r:List Nat) (m i:Nat) {H:Heap} {D:GD} {g:G},r.length<m→(List.range rows).drop i=r→i+r.length=rows→g.c.rows=rows→g.c.row=row→Rep H D g→WF g→
  ∃H' D',j10 (d+5) m D.p p (rows:Int) (i:Int) H=some (.tuple #[],H')∧Rep H' D' (r.foldl (G.wipeIf p row) g)∧Stp H D H' D':=fun r=>by
 induction r with
 |nil=>intro m i H D g hm _ hi _ _ h w;obtain⟨m,rfl⟩:∃m',m=m'+1:=⟨m-1,by simp at hm;omega⟩;simp only[List.length_nil]at hi;rw[j10_s,if_neg (show¬decide ((i:Int)<(rows:Int))=true from dneg (by omega))];exact⟨H,D,rfl,h,Stp.refl _ _⟩
 |cons a r ih=>
  intro m i H D g hm hd hi e1 e2 h w;simp only[List.length_cons]at hm hi;obtain⟨m,rfl⟩:∃m',m=m'+1:=⟨m-1,by omega⟩;have hc:(List.range rows)[i]?=some a:=by have:=congrArg (fun x=>x[0]?) hd;simpa using this
  rw[List.getElem?_range (by omega)]at hc;obtain rfl:i=a:=Option.some.inj hc;have hdr:(List.range rows).drop (i+1)=r:=by rw[←List.drop_drop,hd];rfl
  have next:∀b:Bool,b=decide (gone p row i)→∃H' D',j8 (d+5) m D.p p (i:Int) (rows:Int) (i:Int) b H=some (.tuple #[],H')∧Rep H' D' ((i::r).foldl (G.wipeIf p row) g)∧Stp H D H' D':=fun b hb=>by
   rw[j8_eq];have fin:∀{H1:Heap} {D1:GD},Rep H1 D1 (g.wipeIf p row i)→Stp H D H1 D1→∃H' D',j1s (d+5) m D.p p (rows:Int) (i:Int) H1=some (.tuple #[],H')∧Rep H' D' ((i::r).foldl (G.wipeIf p row) g)∧Stp H D H' D':=fun{H1 D1} h1 s1=>by rw[j1s_eq,wi (by omega)];obtain⟨H',D',e',h',s'⟩:=ih m (i+1) (by omega) hdr (by omega) (by rw[wipeIf_c];exact e1) (by rw[wipeIf_c];exact e2) h1 (w.wipeIf p row i);rw[s1.p]at e';exact⟨H',D',e',h',s1.trans s'⟩
   by_cases hg:gone p row i
   ·rw[if_pos (show b=true by rw[hb];exact decide_eq_true hg),h.l1];simp only[optK_s,asI_s];obtain⟨H1,D1,f1,h1,s1⟩:=wipe_s d h w (i:=i) (f:=0) (t:=g.c.cols) (by omega) (by omega) (Nat.le_refl _);rw[show(.int .i64 0:Value)=.int .i64 ((0:Nat):Int)from rfl,f1];simp only[callK_s];refine fin ?_ s1;unfold G.wipeIf;rw[if_pos hg];exact h1
   ·rw[if_neg (show¬b=true by rw[hb];exact dneg hg)];refine fin ?_ (Stp.refl _ _);unfold G.wipeIf;rw[if_neg hg];exact h
  rw[j10_s,if_pos (show decide ((i:Int)<(rows:Int))=true from decide_eq_true (by omega))];have l3:Heap.ld1 H ⟨D.p,3,none⟩=some (.int .i64 (row:Int)):=by rw[←e2];exact h.l3
  by_cases c2:p=2
  ·rw[if_pos (show decide (p=2)=true from decide_eq_true c2)];exact next true (by rw[decide_eq_true (show gone p row i from .inl c2)])
  rw[if_neg (show¬decide (p=2)=true from dneg c2)];by_cases c0:p=0
  ·rw[if_pos (show decide (p=0)=true from decide_eq_true c0),l3];simp only[optK_s,asI_s];by_cases c3:row<i
   ·rw[if_pos (show decide ((row:Int)<(i:Int))=true from decide_eq_true (by omega))];exact next true (by rw[decide_eq_true (show gone p row i from .inr (.inl ⟨c0,c3⟩))])
   ·rw[if_neg (show¬decide ((row:Int)<(i:Int))=true from dneg (by omega)),if_neg (show¬decide (p=1)=true from dneg (by omega))];exact next false (by rw[decide_eq_false (show¬gone p row i by unfold gone;omega)])
  rw[if_neg (show¬decide (p=0)=true from dneg c0)];by_cases c1:p=1
  ·rw[if_pos (show decide (p=1)=true from decide_eq_true c1),l3];simp only[optK_s,asI_s];exact next _ (decide_eq_decide.2 (by unfold gone;omega))
  ·rw[if_neg (show¬decide (p=1)=true from dneg c1)];exact next false (by rw[decide_eq_false (show¬gone p row i by unfold gone;omega)])
theorem erase_s(d:Nat){H:Heap}{D:GD}{g:G}(h:Rep H D g)(w:WF g)(p:Int):∃H' D',X (d+7) n_85 [P0 D.p,.int .i64 p] H=some (.tuple #[],H')∧Rep H' D' (g.erase p)∧Stp H D H' D':=by
 have r2:=w.r2;have out:∀{H1:Heap},(p<0∨2<p)→jy (d+6) D.p p H1=some (.tuple #[],H1):=fun{H1} hp=>by
  rw[jy_eq];by_cases c0:p<0
  ·rw[if_pos (show decide (p<0)=true from decide_eq_true c0),jz_eq,if_pos rfl]
  ·rw[if_neg (show¬decide (p<0)=true from dneg c0),jz_eq,if_pos (show decide ((2:Int)<p)=true from decide_eq_true (by omega))]
 rw[grid_Grid_erase_eq];unfold G.erase;by_cases c3:p=3
 ·rw[if_pos (show decide (p=3)=true from decide_eq_true c3),if_pos (show p<0∨2<p by omega),if_pos c3];obtain⟨H1,e1,h1,s1⟩:=h.nopast;rw[e1];simp only[optK_s];exact⟨H1,_,out (by omega),h1,s1⟩
 rw[if_neg (show¬decide (p=3)=true from dneg c3)];by_cases cp:p<0∨2<p
 ·rw[if_pos cp,if_neg c3];exact⟨H,D,out cp,h,Stp.refl _ _⟩
 rw[if_neg cp,jy_eq,if_neg (show¬decide (p<0)=true from dneg (by omega)),jz_eq,if_neg (show¬decide ((2:Int)<p)=true from dneg (by omega))];obtain⟨H1,D1,e1,h1,s1⟩:=eraseLine_s d h w p;rw[e1];simp only[callK_s];rw[←s1.p,h1.l0];simp only[optK_s,asI_s];have hc:=eraseLine_c g p;obtain⟨H',D',e',h',s'⟩:=erase_loop (d+1) (p:=p) (rows:=g.c.rows) (row:=g.c.row) w.r2 w.row (List.range g.c.rows) NN 0 (NN_big _ (by simp;omega)) rfl (by simp) (by rw[hc]) (by rw[hc]) h1 (w.eraseLine p);rw[hc,show(0:Int)=((0:Nat):Int)from rfl,e'];exact⟨H',D',rfl,h',s1.trans s'⟩
def cutL(l:List Cl)(col:Nat)(what:Int)(n:Nat):List Cl:=l.take col++(if what=64 then List.replicate (min n (l.length-col)) blank++(l.drop col).take (l.length-col-min n (l.length-col))else if what=80 then(l.drop col).drop (min n (l.length-col))++List.replicate (min n (l.length-col)) blank else List.replicate (min n (l.length-col)) blank++(l.drop col).drop (min n (l.length-col)))
theorem cutL_len{l:List Cl}{col:Nat}(what:Int)(n:Nat)(h:col≤l.length):(cutL l col what n).length=l.length:=by
 unfold cutL;split
 ·simp only[List.length_append,List.length_take,List.length_replicate,List.length_drop];omega
 split
 ·simp only[List.length_append,List.length_take,List.length_replicate,List.length_drop];omega
 ·simp only[List.length_append,List.length_take,List.length_replicate,List.length_drop];omega
def G.cut(g:G)(what:Int)(n:Nat):G:={g with L:=g.L.modify g.c.row fun l=>cutL l g.c.col what n}
theorem WF.cut{g:G}(w:WF g)(what:Int)(n:Nat):WF (g.cut what n):=w.modL fun l hl=>by have:=w.col;rw[cutL_len _ _ (by omega)];exact hl
theorem cut_s(d:Nat){H:Heap}{D:GD}{g:G}(h:Rep H D g)(w:WF g)(what:Int)(n:Nat):∃H' D',X (d+5) n_88 [P0 D.p,.int .i32 what,.int .i64 (n:Int)] H=some (.tuple #[],H')∧Rep H' D' (g.cut what n)∧Stp H D H' D':=by
 have hr:=w.row;have hc:=w.col;have c2:=w.c2;obtain⟨x,b,hx,hxL,hxn,hca,hcn,hld,hrow,hat⟩:=h.rowat w hr;rw[grid_Grid_cut_eq,h.l2];simp only[optK_s,asSL_k];rw[h.l3];simp only[optK_s,asI_s];rw[hca];simp only[optK_s];have hap:ap ⟨b,0,none⟩ (((g.c.row:Int).toNat)*1)=⟨b,g.c.row,none⟩:=by simp[ap]
 rw[if_pos (show(0:Int)≤(g.c.row:Int)∧(g.c.row:Int)<(D.cells.n:Int)by omega),hap,hld];simp only[optK_s,asSL_k];rw[h.l4];simp only[optK_s,asI_s];have v:=hrow.cv;rw[v.s_l (show g.c.col≤x.2.length by omega)];simp only[optK_s,asSL_k];have vs:=v.sub (l:=g.c.col) (k:=x.2.length) (by omega) (Nat.le_refl _);have hT:(x.2.drop g.c.col).take (x.2.length-g.c.col)=x.2.drop g.c.col:=List.take_of_length_le (by simp);rw[hT,List.drop_length,List.append_nil,List.nil_append]at vs;have hTl:(x.2.drop g.c.col).length=x.2.length-g.c.col:=by simp
 have hsn:(subS (wsl x.1 x.2.length) g.c.col x.2.length 4).n=x.2.length-g.c.col:=rfl;generalize hseg:subS (wsl x.1 x.2.length) g.c.col x.2.length 4=seg at*;have hm:(if(seg.n:Int)<(n:Int)then(seg.n:Int)else(n:Int))=((min n (x.2.length-g.c.col):Nat):Int):=by rw[hsn];split<;>omega
 rw[hm];generalize hmm:min n (x.2.length-g.c.col)=m at*;have hmle:m≤x.2.length-g.c.col:=by rw[←hmm];exact Nat.min_le_right _ _
 have fin:∀{H1 H2:Heap} {z:Sl} {new:List Cl},Keep0 H H1→srcCells H1 4 z.n z.v=some (flat new)→z.n=x.2.length-g.c.col→new.length=x.2.length-g.c.col→new=(if what=64 then List.replicate m blank++(x.2.drop g.c.col).take (x.2.length-g.c.col-m)else if what=80 then(x.2.drop g.c.col).drop m++List.replicate m blank else List.replicate m blank++(x.2.drop g.c.col).drop m)→(∀K,effK (.copy 4 false) [seg.v,z.v] H1 K=K (.int .i64 (new.length:Int)) H2)→CV H2 seg x.1 (x.2.take g.c.col) (new++(x.2.drop g.c.col).drop new.length) []→Keep (fun k=>k=x.1) H1 H2→∃D',Rep H2 D' (g.cut what n)∧Stp H D H2 D':=fun{H1 H2 z new} k1 _ _ hl e _ v2 k2=>by
  have r2:=v2.row;have hre:x.2.take g.c.col++(new++(x.2.drop g.c.col).drop new.length++[])=cutL x.2 g.c.col what n:=by rw[List.drop_eq_nil_of_le (by rw[hTl,hl];exact Nat.le_refl _),List.append_nil,List.append_nil,e];unfold cutL;rw[hmm]
  rw[hre]at r2;obtain⟨h2,s2⟩:=(h.new k1).rowput hx k2 r2 (cutL_len _ _ (by omega));refine⟨_,?_,(Stp.new k1).trans s2⟩;unfold G.cut;rw[modify_at hxL];exact h2
 by_cases c1:what=64
 ·rw[if_pos (show decide (what=64)=true from decide_eq_true c1)];obtain⟨b2,H2,e2,hb2,r2,k2⟩:=line_s d m (by omega) H;rw[e2];simp only[callK_s,asSL_k];have hsub:IntKind.wrap .i64 ((seg.n:Int)-((m:Nat):Int))=((seg.n-m:Nat):Int):=by rw[w64 (by omega)];omega
  have vs2:=vs.keep k2 id;rw[hsub,hsn,vs2.s_h (by rw[hTl];omega)];simp only[optK_s,asSL_k];have v3:=vs2.sub (l:=0) (k:=x.2.length-g.c.col-m) (by omega) (by rw[hTl];omega);rw[List.drop_zero,Nat.sub_zero]at v3;have hpl:((x.2.drop g.c.col).take (x.2.length-g.c.col-m)).length=x.2.length-g.c.col-m:=by rw[List.length_take,hTl];omega
  have w2:Whole H2 (wsl b2 m) (flat (List.replicate m blank)) t_52 4:=by have:=r2;unfold Row at this;rw[List.length_replicate]at this;exact this
  have hpn:(subS seg 0 (x.2.length-g.c.col-m) 4).n=x.2.length-g.c.col-m:=rfl;obtain⟨z,H3,e3,w3,k3,f3,n3,_⟩:=append_whole (bytes:=32) (str:=false) (x:=(subS seg 0 (x.2.length-g.c.col-m) 4).v) (n:=x.2.length-g.c.col-m) (new:=flat ((x.2.drop g.c.col).take (x.2.length-g.c.col-m))) w2 rfl (by have:=v3.src (n:=x.2.length-g.c.col-m) (by omega);rw[this,List.take_of_length_le (by omega)]) (by rw[flat_ln,hpl]) (by show(m+(x.2.length-g.c.col-m))*32≤_;omega) (by omega) (by omega);rw[e3];simp only[asSL_k];have k03:Keep0 H H3:=k2.fresh k3 fun k e=>by obtain⟨a,ha,e⟩:=e;cases ha;subst e;exact hb2
  have hzn:z.n=x.2.length-g.c.col:=by rw[n3];show m+(x.2.length-g.c.col-m)=_;omega
  have hsrc:=Whole.src w3;rw[←List.flatMap_append]at hsrc;have hnl:(List.replicate m blank++(x.2.drop g.c.col).take (x.2.length-g.c.col-m)).length=x.2.length-g.c.col:=by rw[List.length_append,List.length_replicate,hpl];omega
  obtain⟨H4,e4,v4,k4,n4⟩:=(vs.keep k03 id).copy (x:=z) (new:=List.replicate m blank++(x.2.drop g.c.col).take (x.2.length-g.c.col-m)) (by rw[hTl,hzn,Nat.min_self];rw[hzn]at hsrc;exact hsrc) (by rw[hnl,hTl,hzn,Nat.min_self]);obtain⟨D',q1,q2⟩:=fin k03 hsrc hzn hnl (by rw[if_pos c1]) e4 v4 k4;rw[e4];simp only[asI_s];rw[show rdsOk [H,H2,H3,H4] [⟨.subSl t_52 4 false true false,[seg.v,.int .i64 ((x.2.length-g.c.col-m:Nat):Int)],(subS seg 0 (x.2.length-g.c.col-m) 4).v,0,1⟩]=true from by simp only[rdsOk,Bool.and_true];rw[show 1+1-0=2 from rfl,rdOk_2,rdAt_s rfl (vs.s_h (by rw[hTl];omega)) (same_sl _ _ _),rdAt_s rfl (vs2.s_h (by rw[hTl];omega)) (same_sl _ _ _)];rfl];exact⟨H4,D',rfl,q1,q2⟩
 rw[if_neg (show¬decide (what=64)=true from dneg c1)];by_cases c2:what=80
 ·rw[if_pos (show decide (what=80)=true from decide_eq_true c2),vs.s_l (by rw[hTl];exact hmle)];simp only[optK_s,asSL_k];have v1:=vs.sub (l:=m) (k:=(x.2.drop g.c.col).length) (by rw[hTl];exact hmle) (Nat.le_refl _);have hpt:((x.2.drop g.c.col).drop m).take ((x.2.drop g.c.col).length-m)=(x.2.drop g.c.col).drop m:=List.take_of_length_le (by rw[List.length_drop];exact Nat.le_refl _);rw[hpt]at v1;have hpl:((x.2.drop g.c.col).drop m).length=x.2.length-g.c.col-m:=by rw[List.length_drop,hTl]
  obtain⟨y,H2,e2,w2,f2,yn,k2⟩:=Clone_s (d+3) v1 (by rw[hpl];omega);rw[e2];simp only[callK_s,asSL_k];obtain⟨b3,H3,e3,hb3,r3,k3⟩:=line_s d m (by omega) H2;rw[e3];simp only[callK_s,asSL_k];have w3:Whole H3 (wsl b3 m) (flat (List.replicate m blank)) t_52 4:=by have:=r3;unfold Row at this;rw[List.length_replicate]at this;exact this
  obtain⟨z,H5,e5,w5,k5,f5,n5,_⟩:=append_whole (bytes:=32) (str:=false) (x:=(wsl b3 m).v) (n:=m) (new:=flat (List.replicate m blank)) (Whole.keep w2 k3 fun _ _ e=>e) rfl (Whole.src w3) (by rw[flat_ln,List.length_replicate]) (by rw[yn,hpl];omega) (by omega) (by omega);rw[e5];simp only[asSL_k];have k05:Keep0 H H5:=(k2.trans k3).fresh k5 fun k e=>f2 k e;have hzn:z.n=x.2.length-g.c.col:=by rw[n5,yn,hpl];omega
  have hsrc:=Whole.src w5;rw[←List.flatMap_append]at hsrc;have hnl:((x.2.drop g.c.col).drop m++List.replicate m blank).length=x.2.length-g.c.col:=by rw[List.length_append,List.length_replicate,hpl];omega
  obtain⟨H4,e4,v4,k4,n4⟩:=(vs.keep k05 id).copy (x:=z) (new:=(x.2.drop g.c.col).drop m++List.replicate m blank) (by rw[hTl,hzn,Nat.min_self];rw[hzn]at hsrc;exact hsrc) (by rw[hnl,hTl,hzn,Nat.min_self]);obtain⟨D',q1,q2⟩:=fin k05 hsrc hzn hnl (by rw[if_neg c1,if_pos c2]) e4 v4 k4;rw[e4];simp only[asI_s];exact⟨H4,D',rfl,q1,q2⟩
 rw[if_neg (show¬decide (what=80)=true from dneg c2)];obtain⟨b3,H3,e3,hb3,r3,k3⟩:=line_s d m (by omega) H;rw[e3];simp only[callK_s,asSL_k];have w3:Whole H3 (wsl b3 m) (flat (List.replicate m blank)) t_52 4:=by have:=r3;unfold Row at this;rw[List.length_replicate]at this;exact this
 have vs3:=vs.keep k3 id;obtain⟨H4,e4,v4,k4,n4⟩:=vs3.copy (x:=wsl b3 m) (new:=List.replicate m blank) (by rw[hTl,show(wsl b3 m).n=m from rfl,Nat.min_eq_left hmle];exact Whole.src w3) (by rw[hTl,List.length_replicate,show(wsl b3 m).n=m from rfl,Nat.min_eq_left hmle]);rw[e4];simp only[asI_s];have r4:=v4.row;have hre:x.2.take g.c.col++(List.replicate m blank++(x.2.drop g.c.col).drop (List.replicate m blank).length++[])=cutL x.2 g.c.col what n:=by unfold cutL;rw[if_neg c1,if_neg c2,hmm,List.length_replicate,List.append_nil]
 rw[hre]at r4;obtain⟨h4,s4⟩:=(h.new k3).rowput hx k4 r4 (cutL_len _ _ (by omega));refine⟨H4,_,rfl,?_,(Stp.new k3).trans s4⟩;unfold G.cut;rw[modify_at hxL];exact h4
def G.region(g:G)(top bottom:Int):G:=if top<bottom then({g with c:={g.c with top:=top.toNat,bottom:=bottom.toNat}}:G).move 0 0 else g
def G.clearTabs(g:G)(p:Int):G:=if p=0 then {g with tabs:=g.tabs.set g.c.col false}else if p=3 then {g with tabs:=List.replicate g.c.cols false}else g
def G.edit(g:G)(a:Act)(n:Nat):G:=if a.rune=74 then g.erase (a.par 0 0)else if a.rune=75 then g.eraseLine (a.par 0 0)else if a.rune=76∨a.rune=77 then(if g.c.row<g.c.top∨g.c.bottom<g.c.row then g else(if a.rune=76 then g.put g.c.row n else g.take g.c.row n).move g.c.row 0)else if a.rune=64∨a.rune=80∨a.rune=88 then g.cut a.rune n else if a.rune=83 then g.up n else if a.rune=84 then g.down n else if a.rune=114 then g.region (a.par 0 1-1) (min (a.par 1 g.c.rows-1) (g.c.rows-1))else if a.rune=103 then g.clearTabs (a.par 0 0)else g
theorem Act.par_pos{a:Act}(ok:a.ok)(i:Nat){dflt:Int}(hd:1≤dflt∧dflt≤9999):1≤a.par i dflt∧a.par i dflt≤9999:=by
 unfold Act.par;split
 ·rename_i n hn;have:=ok.2 n (List.mem_of_getElem? hn);split
  ·exact hd
  ·omega
 ·exact hd
theorem WF.region{g:G}(w:WF g){top bottom:Int}(h0:0≤top)(h1:bottom≤(g.c.rows:Int)-1):WF (g.region top bottom):=by
 unfold G.region;split
 ·exact(w.sc rfl rfl w.row w.col (by show top.toNat<g.c.rows;omega) (by show top.toNat≤bottom.toNat;omega) (by show bottom.toNat<g.c.rows;omega) w.srow w.scol w.arow w.acol:WF {g with c:={g.c with top:=top.toNat,bottom:=bottom.toNat}}).move 0 0
 ·exact w
theorem WF.clearTabs{g:G}(w:WF g)(p:Int):WF (g.clearTabs p):=by
 unfold G.clearTabs;split; · exact w.tabset (by simpa using w.tn)
 split; · exact w.tabset (by simp)
 exact w
theorem WF.edit{g:G}(w:WF g){a:Act}(ok:a.ok)(n:Nat):WF (g.edit a n):=by
 have r1:=w.r1;have r2:=w.r2;unfold G.edit;split; · exact w.erase _
 split; · exact w.eraseLine _
 split
 ·split
  ·exact w
  ·split
   ·exact(w.put (by omega)).move _ _
   ·exact(w.take (by omega)).move _ _
 split; · exact w.cut _ _
 split; · exact w.up _
 split; · exact w.down _
 split; · exact w.region (by have:=(Act.par_pos ok 0 (dflt:=1) (by omega)).1;omega) (by omega)
 split; · exact w.clearTabs _
 exact w
theorem rdAct{H:Heap}{p:Nat}{a:Act}{y:Sl}(h:H.get p=some (.cells (actL a y) t_110 false 0 false)):readD (.load 4 true) [.pointer (some ⟨p,0,none⟩)] H=some (.agg ⟨actL a y⟩):=by simp only[readD,if_true];rw[ldN_s h (show 0+4≤4 by omega)];rfl
theorem cmp_tabs{D:GD}{s:Sl}:∀{i k:Nat},({D with tabs:=s}:GD).cmp i k→(i=3∧s.at k)∨D.cmp i k
 |0,_,h=>.inr h
 |1,_,h=>.inr h
 |2,_,h=>.inr h
 |3,_,h=>.inl ⟨rfl,h⟩
 |4,_,h=>.inr h
 |5,_,h=>.inr h
 |6,_,h=>.inr h
 |7,_,h=>.inr h
theorem rep_false(n:Nat):rep [Value.bool false] n=(List.replicate n false).map Value.bool:=by
 induction n with
 |zero=>rfl
 |succ n ih=>simp only[rep,ih,List.replicate_succ,List.map_cons];rfl
theorem Rep.notabs{H:Heap}{D:GD}{g:G}(h:Rep H D g)(n:Nat)(hn:n≤1000):∃(y:Sl) (H1 H':Heap),(∀K,effK (.mkSl t_4 1 1 [.bool false]) [.int .i64 (n:Int),.int .i64 (n:Int)] H K=K (Sl.v y) H1)∧Heap.st1 H1 ⟨D.p,22,none⟩ y.v=some H'∧Rep H' {D with tabs:=y} {g with tabs:=List.replicate n false}∧Stp H D H' {D with tabs:=y}:=by
 let y:Sl:=⟨some ⟨H.next,0,none⟩,n,n⟩
 have k1:Keep0 H (H.new (.cells ((List.replicate n false).map Value.bool) t_4 false 0 false)):=Keep.new _ _;have w1:Whole (H.new (.cells ((List.replicate n false).map Value.bool) t_4 false 0 false)) y ((List.replicate n false).map Value.bool) t_4 1:=.inr ⟨H.next,n,rfl,by simp,by simp,false,false,by simp⟩;have e1:∀K,effK (.mkSl t_4 1 1 [.bool false]) [.int .i64 (n:Int),.int .i64 (n:Int)] H K=K (Sl.v y) (H.new (.cells ((List.replicate n false).map Value.bool) t_4 false 0 false)):=fun K=>by simp only[effK,asN_s];rw[if_pos (by omega),Int.toNat_natCast,rep_false]
 have h1:=h.new k1;generalize H.new (.cells ((List.replicate n false).map Value.bool) t_4 false 0 false)=H1 at*;obtain⟨H2,e2,g2,k2,n2⟩:=raw1 (i:=22) (v:=y.v) (c':=g.c) (D':={D with tabs:=y}) h1.get (by omega) rfl;have hS:∀k,(fun k=>k=D.p) k→D.cmp 0 k:=fun k e=>e;have hy:∀k,y.at k→k=H.next:=fun k ⟨a,ha,e⟩=>by cases ha;exact e.symm
 have hlt:=h.lt;refine⟨y,H1,H2,e1,e2,⟨g2,by have:=k2.1;have:=k1.1;show D.p<_;omega,h1.o1 k2 hS (by decide),h1.o2 k2 hS (by decide),h.cL,TabO.of<|Whole.keep w1 k2 fun k e e'=>by have:=hy k e;have e'':k=D.p:=e';omega,h1.o4 k2 hS (by decide),h1.o5 k2 hS (by decide),h1.o6 k2 hS (by decide),h1.o7 k2 hS (by decide),h.pL,fun i j k a b=>?_⟩,⟨rfl,rfl,(k1.to.trans k2 fun _ _ e=>e).mono fun k _ e=>⟨0,e⟩,fun k ⟨i,e⟩=>?_⟩⟩
 ·rcases cmp_tabs a with ⟨rfl,a1⟩|a1<;>rcases cmp_tabs b with ⟨rfl,b1⟩|b1
  ·rfl
  ·have:=hy k a1;have:=cmp_lt h b1;omega
  ·have:=hy k b1;have:=cmp_lt h a1;omega
  ·exact h.sep i j k a1 b1
 ·rcases cmp_tabs e with ⟨_,e⟩|e
  ·exact .inr (by rw[hy k e];exact Nat.le_refl _)
  ·exact .inl ⟨i,e⟩
theorem edit_s(d:Nat){H:Heap}{D:GD}{g:G}(h:Rep H D g)(w:WF g){a:Act}{y:Sl}(ok:a.ok)(wy:Whole H y (intL a.params) t_3 1)(n:Nat):∃H' D',X (d+8) n_80 [P0 D.p,.agg ⟨actL a y⟩,.int .i64 (n:Int)] H=some (.tuple #[],H')∧Rep H' D' (g.edit a n)∧Stp H D H' D':=by
 have hr:=w.row;have hc:=w.col;have c2:=w.c2;have r1:=w.r1;have r2:=w.r2;have ht:=w.tn;rw[grid_Grid_edit_eq,boxA];have k1:Keep0 H (H.new (.cells (actL a y) t_110 false 0 false)):=Keep.new _ _;have g1:(H.new (.cells (actL a y) t_110 false 0 false)).get H.next=some (.cells (actL a y) t_110 false 0 false):=by simp
 have n1:(H.new (.cells (actL a y) t_110 false 0 false)).next=H.next+1:=by simp
 generalize H.new (.cells (actL a y) t_110 false 0 false)=H1 at*;simp only[P0];rw[rdAct g1];simp only[optK_s,asA_s];obtain⟨H2,e2,k2⟩:=Params_s (d+6) (Whole.keep wy k1 fun _ _ e=>e) 0 0;rw[show(.int .i64 0:Value)=.int .i64 ((0:Nat):Int)from rfl,show X (d+7) n_78 [.agg ⟨actL a y⟩,.int .i64 ((0:Nat):Int),.int .i64 ((0:Nat):Int)] H1=_ from e2];simp only[callK_s,asI_s,asP_s,optK_s];have g2:=k2.get (by omega) g1;have k02:Keep0 H H2:=k1.trans k2;have h2:=h.new k02;have l1:Heap.ld1 H2 (ap ⟨H.next,0,none⟩ 1)=some (.int .i32 a.rune):=(ld1_s g2).trans rfl;rw[l1];simp only[optK_s,asI_s];have up:∀{H':Heap} {D':GD},Stp H2 D H' D'→Stp H D H' D':=fun s=>(Stp.new k02).trans s;unfold G.edit;by_cases c0:a.rune=74
 ·rw[if_pos (show decide (a.rune=74)=true from decide_eq_true c0),if_pos c0];obtain⟨H',D',e,h',s'⟩:=erase_s d h2 w (a.par 0 0);rw[show X (d+7) n_85 [.pointer (some ⟨D.p,0,none⟩),.int .i64 (a.par 0 0)] H2=_ from e];exact⟨H',D',rfl,h',up s'⟩
 rw[if_neg (show¬decide (a.rune=74)=true from dneg c0),if_neg c0];by_cases c1:a.rune=75
 ·rw[if_pos (show decide (a.rune=75)=true from decide_eq_true c1),if_pos c1];obtain⟨H',D',e,h',s'⟩:=eraseLine_s (d+1) h2 w (a.par 0 0);rw[show X (d+7) n_86 [.pointer (some ⟨D.p,0,none⟩),.int .i64 (a.par 0 0)] H2=_ from e];exact⟨H',D',rfl,h',up s'⟩
 rw[if_neg (show¬decide (a.rune=75)=true from dneg c1),if_neg c1];have mv:∀{H3:Heap} {D3:GD} {g3:G},Rep H3 D3 g3→WF g3→g3.c=g.c→Stp H D H3 D3→∃H' D',j1q (d+7) D.p H3=some (.tuple #[],H')∧Rep H' D' (g3.move g.c.row 0)∧Stp H D H' D':=fun{H3 D3 g3} h3 w3 ec s3=>by rw[j1q_eq,←s3.p,h3.l3,ec];simp only[optK_s,asI_s];obtain⟨H',e,h',s'⟩:=move_s (d+6) h3 w3 g.c.row 0;rw[e];exact⟨H',D3,rfl,h',s3.trans s'⟩
 have lines:(a.rune=76∨a.rune=77)→∃H' D',jx (d+7) D.p (n:Int) (.pointer (some ⟨H.next,0,none⟩)) (a.par 0 0) a.rune true H2=some (.tuple #[],H')∧Rep H' D' (if g.c.row<g.c.top∨g.c.bottom<g.c.row then g else(if a.rune=76 then g.put g.c.row n else g.take g.c.row n).move g.c.row 0)∧Stp H D H' D':=fun hl=>by
  rw[jx_eq,if_pos rfl,h2.l3,h2.l17];simp only[optK_s,asI_s];by_cases cT:g.c.row<g.c.top
  ·rw[if_pos (show decide ((g.c.row:Int)<(g.c.top:Int))=true from decide_eq_true (by omega)),j1p_eq,if_pos rfl,if_pos (show g.c.row<g.c.top∨g.c.bottom<g.c.row from .inl cT)];exact⟨H2,D,rfl,h2,Stp.new k02⟩
  rw[if_neg (show¬decide ((g.c.row:Int)<(g.c.top:Int))=true from dneg (by omega)),h2.l18];simp only[optK_s,asI_s];rw[j1p_eq];by_cases cB:g.c.bottom<g.c.row
  ·rw[if_pos (show decide ((g.c.bottom:Int)<(g.c.row:Int))=true from decide_eq_true (by omega)),if_pos (show g.c.row<g.c.top∨g.c.bottom<g.c.row from .inr cB)];exact⟨H2,D,rfl,h2,Stp.new k02⟩
  rw[if_neg (show¬decide ((g.c.bottom:Int)<(g.c.row:Int))=true from dneg (by omega)),if_neg (show¬(g.c.row<g.c.top∨g.c.bottom<g.c.row)by omega)];simp only[asP_s,optK_s];rw[l1];simp only[optK_s,asI_s];by_cases cL:a.rune=76
  ·rw[if_pos (show decide (a.rune=76)=true from decide_eq_true cL),if_pos cL];rw[h2.l3];simp only[optK_s,asI_s];obtain⟨H3,q3,e3,h3,s3⟩:=put_s (d+1) h2 w (row:=g.c.row) (n:=n) (by omega);rw[e3];simp only[callK_s];exact mv h3 (w.put (by omega)) rfl (up s3)
  ·rw[if_neg (show¬decide (a.rune=76)=true from dneg cL),if_neg cL];rw[h2.l3];simp only[optK_s,asI_s];obtain⟨H3,q3,e3,h3,s3⟩:=take_s (d+1) h2 w (row:=g.c.row) (n:=n) (by omega);rw[e3];simp only[callK_s];exact mv h3 (w.take (by omega)) rfl (up s3)
 by_cases cA:a.rune=76
 ·rw[if_pos (show decide (a.rune=76)=true from decide_eq_true cA),if_pos (show a.rune=76∨a.rune=77 from .inl cA),show decide (a.rune=76)=true from decide_eq_true cA];exact lines (.inl cA)
 rw[if_neg (show¬decide (a.rune=76)=true from dneg cA)];by_cases cB:a.rune=77
 ·rw[if_pos (show a.rune=76∨a.rune=77 from .inr cB),show decide (a.rune=77)=true from decide_eq_true cB];exact lines (.inr cB)
 rw[if_neg (show¬(a.rune=76∨a.rune=77)by omega),show decide (a.rune=77)=false from decide_eq_false cB,jx_eq,if_neg ff];by_cases cC:a.rune=64∨a.rune=80∨a.rune=88
 ·have cells:∃H' D',jg (d+7) D.p (n:Int) (.pointer (some ⟨H.next,0,none⟩)) (a.par 0 0) a.rune true H2=some (.tuple #[],H')∧Rep H' D' (g.cut a.rune n)∧Stp H D H' D':=by
   rw[jg_eq,if_pos rfl];simp only[asP_s,optK_s];rw[l1];simp only[optK_s,asI_s];obtain⟨H',D',e,h',s'⟩:=cut_s (d+2) h2 w a.rune n;rw[show X (d+7) n_88 [.pointer (some ⟨D.p,0,none⟩),.int .i32 a.rune,.int .i64 (n:Int)] H2=_ from e];exact⟨H',D',rfl,h',up s'⟩
  rw[if_pos cC];by_cases cC1:a.rune=64
  ·rw[if_pos (show decide (a.rune=64)=true from decide_eq_true cC1),show decide (a.rune=64)=true from decide_eq_true cC1];exact cells
  rw[if_neg (show¬decide (a.rune=64)=true from dneg cC1)];by_cases cC2:a.rune=80
  ·rw[if_pos (show decide (a.rune=80)=true from decide_eq_true cC2),show decide (a.rune=80)=true from decide_eq_true cC2];exact cells
  rw[if_neg (show¬decide (a.rune=80)=true from dneg cC2),show decide (a.rune=88)=true from decide_eq_true (by omega)];exact cells
 rw[if_neg cC,if_neg (show¬decide (a.rune=64)=true from dneg (by omega)),if_neg (show¬decide (a.rune=80)=true from dneg (by omega)),show decide (a.rune=88)=false from decide_eq_false (by omega),jg_eq,if_neg ff];by_cases cS:a.rune=83
 ·rw[if_pos (show decide (a.rune=83)=true from decide_eq_true cS),if_pos cS];obtain⟨H',D',e,h',s'⟩:=up_s d h2 w n;rw[show X (d+7) n_83 [P0 D.p,.int .i64 (n:Int)] H2=_ from e];exact⟨H',D',rfl,h',up s'⟩
 rw[if_neg (show¬decide (a.rune=83)=true from dneg cS),if_neg cS];by_cases cT:a.rune=84
 ·rw[if_pos (show decide (a.rune=84)=true from decide_eq_true cT),if_pos cT];obtain⟨H',D',e,h',s'⟩:=down_s d h2 w n;rw[show X (d+7) n_76 [P0 D.p,.int .i64 (n:Int)] H2=_ from e];exact⟨H',D',rfl,h',up s'⟩
 rw[if_neg (show¬decide (a.rune=84)=true from dneg cT),if_neg cT];by_cases cR:a.rune=114
 ·rw[if_pos (show decide (a.rune=114)=true from decide_eq_true cR),if_pos cR,rdAct g2];simp only[optK_s,asA_s];obtain⟨H3,e3,k3⟩:=Params_s (d+6) (Whole.keep wy k02 fun _ _ e=>e) 0 1;rw[show X (d+7) n_78 [.agg ⟨actL a y⟩,.int .i64 0,.int .i64 1] H2=_ from e3];simp only[callK_s,asI_s];have n2:=k2.1;have k03:Keep0 H H3:=k02.trans k3;have g3:=k3.get (by omega) g2;have h3:=h.new k03;rw[rdAct g3];simp only[optK_s,asA_s];rw[show Heap.ld1 H3 ⟨D.p,0,none⟩=some (.int .i64 (g.c.rows:Int))from h3.l0];simp only[optK_s,asI_s];obtain⟨H4,e4,k4⟩:=Params_s (d+6) (Whole.keep wy k03 fun _ _ e=>e) 1 g.c.rows;rw[show X (d+7) n_78 [.agg ⟨actL a y⟩,.int .i64 1,.int .i64 (g.c.rows:Int)] H3=_ from e4];simp only[callK_s,asI_s];have k04:Keep0 H H4:=k03.trans k4;have h4:=h.new k04;rw[show Heap.ld1 H4 ⟨D.p,0,none⟩=some (.int .i64 (g.c.rows:Int))from h4.l0];simp only[optK_s,asI_s];rw[show rdsOk [H2,H3,H4] [⟨.load 1 false,[.pointer (some ⟨D.p,0,none⟩)],.int .i64 (g.c.rows:Int),0,2⟩,⟨.load 1 false,[.pointer (some ⟨D.p,0,none⟩)],.int .i64 (g.c.rows:Int),0,1⟩,⟨.load 4 true,[.pointer (some ⟨H.next,0,none⟩)],.agg ⟨actL a y⟩,0,1⟩]=true from by simp only[rdsOk,Bool.and_true];rw[show 2+1-0=3 from rfl,show 1+1-0=2 from rfl,rdOk_3,rdOk_2,rdOk_2,rdAt_s rfl (rd1 h2.l0) (same_int _ _),rdAt_s rfl (rd1 h3.l0) (same_int _ _),rdAt_s rfl (rd1 h4.l0) (same_int _ _),rdAt_s rfl (rd1 h2.l0) (same_int _ _),rdAt_s rfl (rd1 h3.l0) (same_int _ _),rdAt_s rfl (rdAct g2) (by simp[same,same0,sameL,actL,Sl.v]),rdAt_s rfl (rdAct g3) (by simp[same,same0,sameL,actL,Sl.v])];rfl];simp only[chk_s];have p0:=Act.par_pos ok 0 (dflt:=1) (by omega);have p1:=Act.par_pos ok 1 (dflt:=g.c.rows) (by omega);generalize a.par 0 1=t at p0⊢;generalize a.par 1 (g.c.rows:Int)=u at p1⊢;have hm:(if(IntKind.wrap .i64 ((g.c.rows:Int)-1))<(IntKind.wrap .i64 (u-1))then(IntKind.wrap .i64 ((g.c.rows:Int)-1))else(IntKind.wrap .i64 (u-1)))=min (u-1) ((g.c.rows:Int)-1):=by rw[w64 (n:=(g.c.rows:Int)-1) (by omega),w64 (n:=u-1) (by omega)];split<;>omega
  rw[hm,w64 (n:=t-1) (by omega)];unfold G.region;by_cases cc:t-1<min (u-1) ((g.c.rows:Int)-1)
  ·rw[if_pos (show decide (t-1<min (u-1) ((g.c.rows:Int)-1))=true from decide_eq_true cc),if_pos cc];obtain⟨H5,e5,h5,s5⟩:=h4.s17 (t-1).toNat;rw[show(.int .i64 (t-1):Value)=.int .i64 (((t-1).toNat:Nat):Int)by rw[Int.toNat_of_nonneg (by omega)],e5];simp only[optK_s];obtain⟨H6,e6,h6,s6⟩:=h5.s18 (min (u-1) ((g.c.rows:Int)-1)).toNat;rw[show(.int .i64 (min (u-1) ((g.c.rows:Int)-1)):Value)=.int .i64 (((min (u-1) ((g.c.rows:Int)-1)).toNat:Nat):Int)by rw[Int.toNat_of_nonneg (by omega)],e6];simp only[optK_s];obtain⟨H7,e7,h7,s7⟩:=move_b h6 (d+6) w.r1 w.r2 w.c1 w.c2 0 0;rw[show X (d+7) n_75 [.pointer (some ⟨D.p,0,none⟩),.int .i64 0,.int .i64 0] H6=_ from e7];exact⟨H7,D,rfl,h7,(((Stp.new k04).trans s5).trans s6).trans s7⟩
  ·rw[if_neg (show¬decide (t-1<min (u-1) ((g.c.rows:Int)-1))=true from dneg cc),if_neg cc];exact⟨H4,D,rfl,h4,Stp.new k04⟩
 rw[if_neg (show¬decide (a.rune=114)=true from dneg cR),if_neg cR];by_cases cG:a.rune=103
 ·rw[if_pos (show decide (a.rune=103)=true from decide_eq_true cG),if_pos cG];unfold G.clearTabs;by_cases z0:a.par 0 0=0
  ·rw[if_pos (show decide (a.par 0 0=0)=true from decide_eq_true z0),if_pos z0,h2.l22];simp only[optK_s,asSL_k];rw[h2.l4];simp only[optK_s,asI_s];obtain⟨b,H',e1,e2,e3,h',s'⟩:=h2.tabset (by omega) (i:=g.c.col) (by omega) false;rw[e1];simp only[optK_s];rw[if_pos (show(0:Int)≤(g.c.col:Int)∧(g.c.col:Int)<(D.tabs.n:Int)by omega),e3];simp only[optK_s];rw[j1r_eq,if_neg (show¬decide (a.par 0 0=3)=true from dneg (show¬a.par 0 0=3 by omega))];exact⟨H',D,rfl,h',up s'⟩
  ·rw[if_neg (show¬decide (a.par 0 0=0)=true from dneg z0),if_neg z0,j1r_eq];by_cases z3:a.par 0 0=3
   ·rw[if_pos (show decide (a.par 0 0=3)=true from decide_eq_true z3),if_pos z3,h2.l1];simp only[optK_s,asI_s];obtain⟨y1,H3,H',e1,e2,h',s'⟩:=h2.notabs g.c.cols (by omega);rw[e1];simp only[asSL_k];rw[e2];exact⟨H',_,rfl,h',up s'⟩
   ·rw[if_neg (show¬decide (a.par 0 0=3)=true from dneg z3),if_neg z3];exact⟨H2,D,rfl,h2,Stp.new k02⟩
 rw[if_neg (show¬decide (a.rune=103)=true from dneg cG),if_neg cG];exact⟨H2,D,rfl,h2,Stp.new k02⟩
def enc(r:Int):W:=lst (Utf8.encode r)
def rr(l:List Cl):List Int:=l.map Cl.r
theorem Row.lda{H:Heap}{b:Nat}{L:List Cl}(h:Row H b L){i:Nat}{c:Cl}(hc:L[i]?=some c):ldA H ⟨b,i*4,none⟩ 4=some (.agg ⟨cellV c⟩):=by obtain⟨_,_,_,_,o,st,g0⟩:=h.vw;have hi:=(List.getElem?_eq_some_iff.1 hc).1;unfold ldA;rw[List.nil_append,List.append_nil]at g0;rw[ldN_s g0 (by rw[flat_ln];omega),fm_at cellV 4 cellV_len hc]
end Go.Proofs.YtjjchnjcmnkpdaaDoor.dec
namespace Go.Proofs.YtjjchnjcmnkpdaaDoor.dec
open Go Go.Cm
def nums(l:W):List Int:=l.map fun b=>(b.toNat:Int)
theorem pFeed_cons(c:PS)(r:Int)(l:List Int):pFeed c (r::l)=((pFeed (pRune c r).1 l).1,(pRune c r).2.toList++(pFeed (pRune c r).1 l).2):=by rw[pFeed];cases (pRune c r).2<;>rfl
theorem pFeed_app(l l':List Int):∀c:PS,pFeed c (l++l')=((pFeed (pFeed c l).1 l').1,(pFeed c l).2++(pFeed (pFeed c l).1 l').2):=by
 induction l with
 |nil=>intro c;simp[pFeed]
 |cons r l ih=>intro c;rw[List.cons_append,pFeed_cons,pFeed_cons,ih];simp
theorem pEsc_acts(c:PS)(r:Int):∀a,(pEsc c r).2=some a→a.ok:=by
 intro a;unfold pEsc
 repeat' split
 all_goals intro e;cases e
 all_goals exact⟨by simp,fun n hn=>by cases hn⟩
theorem pCsi_acts{c:PS}(h:c.ok)(r:Int):∀a,(pCsi c r).2=some a→a.ok:=by
 intro a;unfold pCsi;simp only
 repeat' split
 all_goals intro e;cases e
 ·exact⟨by simp,fun n hn=>by cases hn⟩
 ·exact⟨by have:=h.2.1;show c.params.length≤1000;omega,h.2.2⟩
theorem pRune_acts{c:PS}(h:c.fine)(r:Int):∀a,(pRune c r).2=some a→a.ok:=by
 intro a;unfold pRune;split; · intro e;cases e
 split; · intro e;cases e
 split; · exact pEsc_acts c r a
 split; · intro e;cases e
 split
 ·rename_i h3;exact pCsi_acts (h h3) r a
 split; · intro e;cases e
 split
 ·split
  ·intro e;cases e
  ·exact pEsc_acts c r a
 ·unfold pPlain
  repeat' split
  all_goals intro e;cases e
  all_goals exact⟨by simp,fun n hn=>by cases hn⟩
theorem pFeed_acts{c:PS}(h:c.fine):∀l,∀a∈(pFeed c l).2,a.ok:=fun l=>by
 induction l generalizing c with
 |nil=>intro a ha;cases ha
 |cons r l ih=>
  rw[pFeed_cons];intro a ha;rcases List.mem_append.1 ha with ha|ha
  ·exact pRune_acts h r a (by simpa using ha)
  ·exact ih (pRune_ok h r) a ha
def Says(l:W)(al:List Act):Prop:=(∀b∈l,b.toNat<128)∧∀c:PS,c.state=0→(pFeed c (nums l)).1.state=0∧(pFeed c (nums l)).2=al
theorem nums_app(l l':W):nums (l++l')=nums l++nums l':=List.map_append
theorem Says.nil:Says [] []:=⟨(fun _ h=>nomatch h),fun _ h=>⟨h,rfl⟩⟩
theorem Says.app{l l':W}{al bl:List Act}(h:Says l al)(h':Says l' bl):Says (l++l') (al++bl):=by refine⟨fun b hb=>(List.mem_append.1 hb).elim (h.1 b) (h'.1 b),fun c hc=>?_⟩;obtain⟨h1,h2⟩:=h.2 c hc;obtain⟨h3,h4⟩:=h'.2 _ h1;rw[nums_app,pFeed_app];exact⟨h3,by rw[h2,h4]⟩
theorem Says.rune{b:UInt8}{a:Act}(hb:b.toNat<128)(h:∀c:PS,c.state=0→(pRune c b.toNat).1.state=0∧(pRune c b.toNat).2=some a):Says [b] [a]:=by
 refine⟨fun x hx=>by rw[List.mem_singleton.1 hx];exact hb,fun c hc=>?_⟩;have e:pFeed c (nums [b])=((pRune c b.toNat).1,(pRune c b.toNat).2.toList):=by show pFeed c [(b.toNat:Int)]=_;rw[pFeed_cons];simp[pFeed]
 rw[e,(h c hc).2];exact⟨(h c hc).1,rfl⟩
theorem Says.esc{b:UInt8}{a:Act}(hb:b.toNat<128)(h:∀c:PS,c.state=1→(pEsc c b.toNat).1.state=0∧(pEsc c b.toNat).2=some a)(hb2:b.toNat≠27):Says [27,b] [a]:=by
 refine⟨fun x hx=>?_,fun c hc=>?_⟩
 ·simp only[List.mem_cons,List.not_mem_nil,or_false]at hx;rcases hx with rfl|rfl
  ·decide
  ·exact hb
 have e1:pRune c 27=({c with state:=1},none):=by unfold pRune;rw[if_pos ⟨rfl,by omega⟩]
 have e2:pRune {c with state:=1} b.toNat=pEsc {c with state:=1} b.toNat:=by unfold pRune;rw[if_neg (show¬((b.toNat:Int)=27∧_)by omega),if_neg (show¬(b.toNat:Int)=27 by omega),if_pos rfl]
 have h':=h {c with state:=1} rfl;have e:pFeed c (nums [27,b])=((pEsc {c with state:=1} b.toNat).1,(pEsc {c with state:=1} b.toNat).2.toList):=by show pFeed c [(27:Int),(b.toNat:Int)]=_;rw[pFeed_cons,e1,pFeed_cons,e2];simp[pFeed]
 rw[e,h'.2];exact⟨h'.1,rfl⟩
def digs(n:Nat):W:=if n<10 then [UInt8.ofNat (48+n)]else [UInt8.ofNat (48+n/10),UInt8.ofNat (48+n%10)]
theorem ofNat_toNat{n:Nat}(h:n<256):(UInt8.ofNat n).toNat=n:=by rw[UInt8.toNat_ofNat'];omega
def csi0:PS:=⟨3,false,false,false,false,[0]⟩
theorem feed_open{c:PS}(hc:c.state=0)(rest:List Int):pFeed c (27::91::rest)=pFeed csi0 rest:=by
 have e1:pRune c 27=({c with state:=1},none):=by unfold pRune;rw[if_pos ⟨rfl,by omega⟩]
 have e2:pRune {c with state:=1} 91=(csi0,none):=rfl;rw[pFeed_cons,e1,pFeed_cons,e2];rfl
theorem Says.csi{l:W}{a:Act}(hl:∀b∈l,b.toNat<128)(h:(pFeed csi0 (nums l)).1.state=0∧(pFeed csi0 (nums l)).2=[a]):Says (27::91::l) [a]:=by
 refine⟨fun b hb=>?_,fun c hc=>?_⟩
 ·simp only[List.mem_cons]at hb;rcases hb with rfl|rfl|hb
  ·decide
  ·decide
  ·exact hl b hb
 ·rw[show pFeed c (nums (27::91::l))=pFeed csi0 (nums l)from feed_open hc _];exact h
end Go.Proofs.YtjjchnjcmnkpdaaDoor.dec
namespace Go.Proofs.YtjjchnjcmnkpdaaDoor.dec
open Go Go.Cm
attribute [local congr] optK_congr asI_congr asN_congr asB_congr asS_congr asP_congr asA_congr asSL_congr callK_congr castT_congr chk_congr
def G.csi(g:G)(a:Act):G:=if a.rune=65∨a.rune=70 then g.move (max ((g.c.row:Int)-a.par 0 1) (if g.c.top≤g.c.row then g.c.top else 0)) (if a.rune=70 then 0 else g.c.col)else if a.rune=66∨a.rune=69 then g.move (min ((g.c.row:Int)+a.par 0 1) (if g.c.row≤g.c.bottom then g.c.bottom else(g.c.rows:Int)-1)) (if a.rune=69 then 0 else g.c.col)else if a.rune=67 then g.move g.c.row ((g.c.col:Int)+a.par 0 1)else if a.rune=68 then g.move g.c.row ((g.c.col:Int)-a.par 0 1)else if a.rune=71 then g.move g.c.row (a.par 0 1-1)else if a.rune=100 then g.move (a.par 0 1-1) g.c.col else if a.rune=72∨a.rune=102 then g.move (a.par 0 1-1) (a.par 1 1-1)else if a.rune=109 then a.params.foldl G.style g else if a.rune=104∨a.rune=108 then(if(4:Int)∈a.params then {g with c:={g.c with insert:=decide (a.rune=104)}}else g)else g.edit a (a.par 0 1).toNat
theorem WF.csi{g:G}(w:WF g){a:Act}(ok:a.ok):WF (g.csi a):=by
 unfold G.csi;split; · exact w.move _ _
 split; · exact w.move _ _
 split; · exact w.move _ _
 split; · exact w.move _ _
 split; · exact w.move _ _
 split; · exact w.move _ _
 split; · exact w.move _ _
 split; · exact WF.foldl (fun g n w=>w.style n) _ w
 split
 ·split
  ·exact w.sc rfl rfl w.row w.col w.top w.tb w.bot w.srow w.scol w.arow w.acol
  ·exact w
 exact w.edit ok _
theorem styles_loop(d:Nat){y:Sl}{l:List Int}(hl:l.length≤1000):∀(r:List Int) (m i:Nat) {H:Heap} {D:GD} {g:G},r.length<m→l.drop i=r→i+r.length=l.length→Rep H D g→Whole H y (intL l) t_3 1→(∀k,y.at k→¬D.foot k)→
  ∃H',jv (d+1) m D.p y (y.n:Int) (i:Int) H=some (.tuple #[],H')∧Rep H' D (r.foldl G.style g)∧Stp H D H' D:=fun r=>by
 induction r with
 |nil=>intro m i H D g hm _ hi h wy hy;obtain⟨m,rfl⟩:∃m',m=m'+1:=⟨m-1,by simp at hm;omega⟩;have hn:=intN wy;simp only[List.length_nil]at hi;rw[jv_s,if_neg (show¬decide ((i:Int)<(y.n:Int))=true from dneg (by omega))];exact⟨H,rfl,h,Stp.refl _ _⟩
 |cons n r ih=>
  intro m i H D g hm hd hi h wy hy;simp only[List.length_cons]at hm hi;obtain⟨m,rfl⟩:∃m',m=m'+1:=⟨m-1,by omega⟩;have hc:l[i]?=some n:=by have:=congrArg (fun x=>x[0]?) hd;simpa using this
  have hdr:l.drop (i+1)=r:=by rw[←List.drop_drop,hd];rfl
  have hn:=intN wy;obtain⟨b,ha,hl1⟩:=intAt wy hc;rw[jv_s,if_pos (show decide ((i:Int)<(y.n:Int))=true from decide_eq_true (by omega)),ha];simp only[optK_s];rw[if_pos (show(0:Int)≤(i:Int)∧(i:Int)<(y.n:Int)by omega),hl1];simp only[optK_s,asI_s];obtain⟨H1,e1,h1,s1⟩:=style_s d h n;rw[e1];simp only[callK_s];rw[wi (by omega)];obtain⟨H',e',h',s'⟩:=ih m (i+1) (by omega) hdr (by omega) h1 (Whole.keep wy s1.kp hy) hy;exact⟨H',e',h',s1.trans s'⟩
theorem gcsi_s(d:Nat){H:Heap}{D:GD}{g:G}(h:Rep H D g)(w:WF g){a:Act}{y:Sl}(ok:a.ok)(wy:Whole H y (intL a.params) t_3 1)(hy:∀k,y.at k→¬D.foot k):∃H' D',X (d+9) n_63 [P0 D.p,.agg ⟨actL a y⟩] H=some (.tuple #[],H')∧Rep H' D' (g.csi a)∧Stp H D H' D':=by
 have hr:=w.row;have hc:=w.col;have c2:=w.c2;have r1:=w.r1;have r2:=w.r2;have hb:=w.bot;have hT:=w.top;rw[grid_Grid_csi_eq,boxA];have k1:Keep0 H (H.new (.cells (actL a y) t_110 false 0 false)):=Keep.new _ _;have g1:(H.new (.cells (actL a y) t_110 false 0 false)).get H.next=some (.cells (actL a y) t_110 false 0 false):=by simp
 have n1:(H.new (.cells (actL a y) t_110 false 0 false)).next=H.next+1:=by simp
 generalize H.new (.cells (actL a y) t_110 false 0 false)=H1 at*;simp only[P0];rw[rdAct g1];simp only[optK_s,asA_s];obtain⟨H2,e2,k2⟩:=Params_s (d+7) (Whole.keep wy k1 fun _ _ e=>e) 0 1;rw[show X (d+8) n_78 [.agg ⟨actL a y⟩,.int .i64 0,.int .i64 1] H1=_ from e2];simp only[callK_s,asI_s];have g2:=k2.get (by omega) g1;have k02:Keep0 H H2:=k1.trans k2;have h2:=h.new k02;have wy2:=Whole.keep wy k02 fun _ _ e=>e;have l1:Heap.ld1 H2 (ap ⟨H.next,0,none⟩ 1)=some (.int .i32 a.rune):=(ld1_s g2).trans rfl;have l3:Heap.ld1 H2 (ap ⟨H.next,0,none⟩ 3)=some y.v:=(ld1_s g2).trans rfl;rw[h2.l3,h2.l4];simp only[optK_s,asI_s,asP_s];rw[l1];simp only[optK_s,asI_s];have up:∀{H':Heap} {D':GD},Stp H2 D H' D'→Stp H D H' D':=fun s=>(Stp.new k02).trans s;have pp:=Act.par_pos ok 0 (dflt:=1) (by omega);have mv:∀(row col:Int),∃H',X (d+8) n_75 [.pointer (some ⟨D.p,0,none⟩),.int .i64 row,.int .i64 col] H2=some (.tuple #[],H')∧Rep H' D (g.move row col)∧Stp H D H' D:=fun row col=>by obtain⟨H',e,h',s'⟩:=move_s (d+7) h2 w row col;exact⟨H',e,h',up s'⟩
 unfold G.csi;by_cases cA:a.rune=65∨a.rune=70
 ·rw[if_pos cA];have upw:∃H' D',js (d+8) D.p (.pointer (some ⟨H.next,0,none⟩)) (a.par 0 1) g.c.row g.c.col a.rune true H2=some (.tuple #[],H')∧Rep H' D' (g.move (max ((g.c.row:Int)-a.par 0 1) (if g.c.top≤g.c.row then g.c.top else 0)) (if a.rune=70 then 0 else g.c.col))∧Stp H D H' D':=by
   rw[js_eq,if_pos rfl,h2.l17];simp only[optK_s,asI_s];have fin:∀(least:Int),0≤least→least≤60→∃H',j1l (d+8) D.p (.pointer (some ⟨H.next,0,none⟩)) (a.par 0 1) g.c.row g.c.col least H2=some (.tuple #[],H')∧Rep H' D (g.move (max ((g.c.row:Int)-a.par 0 1) least) (if a.rune=70 then 0 else g.c.col))∧Stp H D H' D:=fun least hl1 hl2=>by
    rw[j1l_eq];simp only[asP_s,optK_s];rw[l1];simp only[optK_s,asI_s];have hm:(if(IntKind.wrap .i64 ((g.c.row:Int)-a.par 0 1))<least then least else(IntKind.wrap .i64 ((g.c.row:Int)-a.par 0 1)))=max ((g.c.row:Int)-a.par 0 1) least:=by rw[w64 (by omega)];split<;>omega
    rw[hm];by_cases cF:a.rune=70
    ·rw[if_pos (show decide (a.rune=70)=true from decide_eq_true cF),if_pos cF,j1m_eq];obtain⟨H',e,h',s'⟩:=mv (max ((g.c.row:Int)-a.par 0 1) least) 0;rw[show X (d+8) n_75 [P0 D.p,.int .i64 (max ((g.c.row:Int)-a.par 0 1) least),.int .i64 0] H2=_ from e];exact⟨H',rfl,h',s'⟩
    ·rw[if_neg (show¬decide (a.rune=70)=true from dneg cF),if_neg cF,j1m_eq];obtain⟨H',e,h',s'⟩:=mv (max ((g.c.row:Int)-a.par 0 1) least) g.c.col;rw[show X (d+8) n_75 [P0 D.p,.int .i64 (max ((g.c.row:Int)-a.par 0 1) least),.int .i64 (g.c.col:Int)] H2=_ from e];exact⟨H',rfl,h',s'⟩
   by_cases ct:g.c.top≤g.c.row
   ·rw[if_pos (show decide ((g.c.top:Int)≤(g.c.row:Int))=true from decide_eq_true (by omega))];obtain⟨H',e,h',s'⟩:=fin g.c.top (by omega) (by omega);rw[if_pos ct];exact⟨H',D,e,h',s'⟩
   ·rw[if_neg (show¬decide ((g.c.top:Int)≤(g.c.row:Int))=true from dneg (by omega))];obtain⟨H',e,h',s'⟩:=fin 0 (by omega) (by omega);rw[if_neg ct];exact⟨H',D,e,h',s'⟩
  by_cases c65:a.rune=65
  ·rw[if_pos (show decide (a.rune=65)=true from decide_eq_true c65),show decide (a.rune=65)=true from decide_eq_true c65];exact upw
  ·rw[if_neg (show¬decide (a.rune=65)=true from dneg c65),show decide (a.rune=70)=true from decide_eq_true (by omega)];exact upw
 rw[if_neg (show¬decide (a.rune=65)=true from dneg (by omega)),if_neg cA,show decide (a.rune=70)=false from decide_eq_false (by omega),js_eq,if_neg ff];by_cases cB:a.rune=66∨a.rune=69
 ·rw[if_pos cB];have dnw:∃H' D',jt (d+8) D.p (.pointer (some ⟨H.next,0,none⟩)) (a.par 0 1) g.c.row g.c.col a.rune true H2=some (.tuple #[],H')∧Rep H' D' (g.move (min ((g.c.row:Int)+a.par 0 1) (if g.c.row≤g.c.bottom then g.c.bottom else(g.c.rows:Int)-1)) (if a.rune=69 then 0 else g.c.col))∧Stp H D H' D':=by
   rw[jt_eq,if_pos rfl,show Heap.ld1 H2 ⟨D.p,0,none⟩=some (.int .i64 (g.c.rows:Int))from h2.l0,h2.l18];simp only[optK_s,asI_s];have fin:∀(most:Int),0≤most→most≤60→∃H',j1n (d+8) D.p (.pointer (some ⟨H.next,0,none⟩)) (a.par 0 1) g.c.row g.c.col most H2=some (.tuple #[],H')∧Rep H' D (g.move (min ((g.c.row:Int)+a.par 0 1) most) (if a.rune=69 then 0 else g.c.col))∧Stp H D H' D:=fun most hl1 hl2=>by
    rw[j1n_eq];simp only[asP_s,optK_s];rw[l1];simp only[optK_s,asI_s];have hm:(if most<(IntKind.wrap .i64 ((g.c.row:Int)+a.par 0 1))then most else(IntKind.wrap .i64 ((g.c.row:Int)+a.par 0 1)))=min ((g.c.row:Int)+a.par 0 1) most:=by rw[w64 (by omega)];split<;>omega
    rw[hm];by_cases cF:a.rune=69
    ·rw[if_pos (show decide (a.rune=69)=true from decide_eq_true cF),if_pos cF,j1o_eq];obtain⟨H',e,h',s'⟩:=mv (min ((g.c.row:Int)+a.par 0 1) most) 0;rw[show X (d+8) n_75 [P0 D.p,.int .i64 (min ((g.c.row:Int)+a.par 0 1) most),.int .i64 0] H2=_ from e];exact⟨H',rfl,h',s'⟩
    ·rw[if_neg (show¬decide (a.rune=69)=true from dneg cF),if_neg cF,j1o_eq];obtain⟨H',e,h',s'⟩:=mv (min ((g.c.row:Int)+a.par 0 1) most) g.c.col;rw[show X (d+8) n_75 [P0 D.p,.int .i64 (min ((g.c.row:Int)+a.par 0 1) most),.int .i64 (g.c.col:Int)] H2=_ from e];exact⟨H',rfl,h',s'⟩
   by_cases ct:g.c.row≤g.c.bottom
   ·rw[if_pos (show decide ((g.c.row:Int)≤(g.c.bottom:Int))=true from decide_eq_true (by omega))];obtain⟨H',e,h',s'⟩:=fin g.c.bottom (by omega) (by omega);rw[if_pos ct];exact⟨H',D,e,h',s'⟩
   ·rw[if_neg (show¬decide ((g.c.row:Int)≤(g.c.bottom:Int))=true from dneg (by omega)),w64 (n:=(g.c.rows:Int)-1) (by omega)];obtain⟨H',e,h',s'⟩:=fin ((g.c.rows:Int)-1) (by omega) (by omega);rw[if_neg ct];exact⟨H',D,e,h',s'⟩
  by_cases c66:a.rune=66
  ·rw[if_pos (show decide (a.rune=66)=true from decide_eq_true c66),show decide (a.rune=66)=true from decide_eq_true c66];exact dnw
  ·rw[if_neg (show¬decide (a.rune=66)=true from dneg c66),show decide (a.rune=69)=true from decide_eq_true (by omega)];exact dnw
 rw[if_neg (show¬decide (a.rune=66)=true from dneg (by omega)),if_neg cB,show decide (a.rune=69)=false from decide_eq_false (by omega),jt_eq,if_neg ff];by_cases cC:a.rune=67
 ·rw[if_pos (show decide (a.rune=67)=true from decide_eq_true cC),if_pos cC,w64 (n:=(g.c.col:Int)+a.par 0 1) (by omega)];obtain⟨H',e,h',s'⟩:=mv g.c.row ((g.c.col:Int)+a.par 0 1);rw[show X (d+8) n_75 [P0 D.p,.int .i64 (g.c.row:Int),.int .i64 ((g.c.col:Int)+a.par 0 1)] H2=_ from e];exact⟨H',D,rfl,h',s'⟩
 rw[if_neg (show¬decide (a.rune=67)=true from dneg cC),if_neg cC];by_cases cD:a.rune=68
 ·rw[if_pos (show decide (a.rune=68)=true from decide_eq_true cD),if_pos cD,w64 (n:=(g.c.col:Int)-a.par 0 1) (by omega)];obtain⟨H',e,h',s'⟩:=mv g.c.row ((g.c.col:Int)-a.par 0 1);rw[show X (d+8) n_75 [P0 D.p,.int .i64 (g.c.row:Int),.int .i64 ((g.c.col:Int)-a.par 0 1)] H2=_ from e];exact⟨H',D,rfl,h',s'⟩
 rw[if_neg (show¬decide (a.rune=68)=true from dneg cD),if_neg cD,w64 (n:=a.par 0 1-1) (by omega)];by_cases cG:a.rune=71
 ·rw[if_pos (show decide (a.rune=71)=true from decide_eq_true cG),if_pos cG];obtain⟨H',e,h',s'⟩:=mv g.c.row (a.par 0 1-1);rw[show X (d+8) n_75 [P0 D.p,.int .i64 (g.c.row:Int),.int .i64 (a.par 0 1-1)] H2=_ from e];exact⟨H',D,rfl,h',s'⟩
 rw[if_neg (show¬decide (a.rune=71)=true from dneg cG),if_neg cG];by_cases cd:a.rune=100
 ·rw[if_pos (show decide (a.rune=100)=true from decide_eq_true cd),if_pos cd];obtain⟨H',e,h',s'⟩:=mv (a.par 0 1-1) g.c.col;rw[show X (d+8) n_75 [P0 D.p,.int .i64 (a.par 0 1-1),.int .i64 (g.c.col:Int)] H2=_ from e];exact⟨H',D,rfl,h',s'⟩
 rw[if_neg (show¬decide (a.rune=100)=true from dneg cd),if_neg cd];by_cases cH:a.rune=72∨a.rune=102
 ·rw[if_pos cH];have hw:∃H' D',ju (d+8) D.p (.pointer (some ⟨H.next,0,none⟩)) (a.par 0 1) a.rune true H2=some (.tuple #[],H')∧Rep H' D' (g.move (a.par 0 1-1) (a.par 1 1-1))∧Stp H D H' D':=by rw[ju_eq,if_pos rfl,rdAct g2];simp only[optK_s,asA_s];obtain⟨H3,e3,k3⟩:=Params_s (d+7) wy2 1 1;rw[show X (d+8) n_78 [.agg ⟨actL a y⟩,.int .i64 1,.int .i64 1] H2=_ from e3];simp only[callK_s,asI_s];have p1:=Act.par_pos ok 1 (dflt:=1) (by omega);rw[w64 (n:=a.par 0 1-1) (by omega),w64 (n:=a.par 1 1-1) (by omega)];have h3:=h2.new k3;obtain⟨H',e,h',s'⟩:=move_s (d+7) h3 w (a.par 0 1-1) (a.par 1 1-1);rw[e];exact⟨H',D,rfl,h',up ((Stp.new k3).trans s')⟩
  by_cases c72:a.rune=72
  ·rw[if_pos (show decide (a.rune=72)=true from decide_eq_true c72),show decide (a.rune=72)=true from decide_eq_true c72];exact hw
  ·rw[if_neg (show¬decide (a.rune=72)=true from dneg c72),show decide (a.rune=102)=true from decide_eq_true (by omega)];exact hw
 rw[if_neg (show¬decide (a.rune=72)=true from dneg (by omega)),if_neg cH,show decide (a.rune=102)=false from decide_eq_false (by omega),ju_eq,if_neg ff];by_cases cm:a.rune=109
 ·rw[if_pos (show decide (a.rune=109)=true from decide_eq_true cm),if_pos cm];simp only[asP_s,optK_s];rw[l3];simp only[optK_s,asSL_k];have hl:=ok.1;obtain⟨H',e',h',s'⟩:=styles_loop (d+7) ok.1 a.params NN 0 (NN_big _ (by omega)) rfl (by omega) h2 wy2 hy;exact⟨H',D,e',h',up s'⟩
 rw[if_neg (show¬decide (a.rune=109)=true from dneg cm),if_neg cm];by_cases ch:a.rune=104∨a.rune=108
 ·rw[if_pos ch];have ins:∃H' D',jw (d+8) D.p (.pointer (some ⟨H.next,0,none⟩)) (a.par 0 1) true H2=some (.tuple #[],H')∧Rep H' D' (if(4:Int)∈a.params then {g with c:={g.c with insert:=decide (a.rune=104)}}else g)∧Stp H D H' D':=by
   rw[jw_eq,if_pos rfl];simp only[asP_s,optK_s];rw[l3];simp only[optK_s,asSL_k];rw[show X (d+8) n_54 [y.v,.int .i64 4] H2=_ from Contains_s (d+6) wy2 ok.1 4];simp only[callK_s,asB_s];by_cases c4:(4:Int)∈a.params
   ·rw[if_pos (show decide ((4:Int)∈a.params)=true from decide_eq_true c4),if_pos c4];rw[l1];simp only[optK_s,asI_s];obtain⟨H',e',h',s'⟩:=h2.s20 (decide (a.rune=104));rw[e'];exact⟨H',D,rfl,h',up s'⟩
   ·rw[if_neg (show¬decide ((4:Int)∈a.params)=true from dneg c4),if_neg c4];exact⟨H2,D,rfl,h2,Stp.new k02⟩
  by_cases c104:a.rune=104
  ·rw[if_pos (show decide (a.rune=104)=true from decide_eq_true c104)];have ins':=ins;rw[show decide (a.rune=104)=true from decide_eq_true c104]at ins'⊢;exact ins'
  ·rw[if_neg (show¬decide (a.rune=104)=true from dneg c104),show decide (a.rune=108)=true from decide_eq_true (by omega)];exact ins
 rw[if_neg (show¬decide (a.rune=104)=true from dneg (by omega)),if_neg ch,show decide (a.rune=108)=false from decide_eq_false (by omega),jw_eq,if_neg ff,rdAct g2];simp only[optK_s,asA_s];obtain⟨H',D',e',h',s'⟩:=edit_s d h2 w ok wy2 (a.par 0 1).toNat;rw[Int.toNat_of_nonneg (by omega)]at e';rw[e'];exact⟨H',D',rfl,h',up s'⟩
def G.doA(g:G)(a:Act):G:=if a.kind=1 then g.print a.rune else if a.kind=2 then g.control a.rune else if a.kind=3 then g.esc a.rune else if a.kind=4 then(if a.mark then g.modes a else g.csi a)else g
theorem WF.doA{g:G}(w:WF g){a:Act}(ok:a.ok):WF (g.doA a):=by
 unfold G.doA;split; · exact w.print _
 split; · exact w.control _
 split; · exact w.esc _
 split
 ·split
  ·exact w.modes a
  ·exact w.csi ok
 exact w
theorem doA_s(d:Nat){a:Act}(ok:a.ok):Does (d+10) G.doA a:=by
 intro H D g y h w wy hy;by_cases c1:a.kind=1
 ·exact does_print d c1 (fun g=>by unfold G.doA;rw[if_pos c1]) h w wy hy
 by_cases c2:a.kind=2
 ·exact does_control d c2 (fun g=>by unfold G.doA;rw[if_neg c1,if_pos c2]) h w wy hy
 rw[grid_Grid_Do_eq,boxA];have k1:Keep0 H (H.new (.cells (actL a y) t_110 false 0 false)):=Keep.new _ _;have g1:(H.new (.cells (actL a y) t_110 false 0 false)).get H.next=some (.cells (actL a y) t_110 false 0 false):=by simp
 generalize H.new (.cells (actL a y) t_110 false 0 false)=H1 at*;simp only[P0,asP_s,optK_s];rw[show ap ⟨H.next,0,none⟩ 0=⟨H.next,0,none⟩from rfl,(ld1_s g1).trans (show(actL a y)[0]?=some (.int .i64 (a.kind:Int))from rfl)];simp only[optK_s,asI_s];rw[if_neg (show¬decide ((a.kind:Int)=1)=true from dneg (by omega)),if_neg (show¬decide ((a.kind:Int)=2)=true from dneg (by omega))];have wf:WF (g.doA a):=w.doA ok;unfold G.doA at wf⊢;rw[if_neg c1,if_neg c2]at wf⊢;by_cases c3:a.kind=3
 ·rw[if_pos (show decide ((a.kind:Int)=3)=true from decide_eq_true (by omega)),if_pos c3,show ap ⟨H.next,0,none⟩ 1=⟨H.next,1,none⟩from rfl,(ld1_s g1).trans (show(actL a y)[1]?=some (.int .i32 a.rune)from rfl)];rw[if_pos c3]at wf;simp only[optK_s,asI_s];obtain⟨H2,D2,e2,h2,s2⟩:=esc_s d (h.new k1) w a.rune;rw[show X (d+9) n_61 [.pointer (some ⟨D.p,0,none⟩),.int .i32 a.rune] H1=_ from e2];exact⟨H2,D2,rfl,h2,wf,(Stp.new k1).trans s2⟩
 rw[if_neg (show¬decide ((a.kind:Int)=3)=true from dneg (by omega)),if_neg c3];rw[if_neg c3]at wf;by_cases c4:a.kind=4
 ·rw[if_pos (show decide ((a.kind:Int)=4)=true from decide_eq_true (by omega)),if_pos c4];rw[if_pos c4]at wf;rw[show ap ⟨H.next,0,none⟩ 2=⟨H.next,2,none⟩from rfl,(ld1_s g1).trans (show(actL a y)[2]?=some (.bool a.mark)from rfl)];simp only[optK_s,asB_s];by_cases cm:a.mark=true
  ·rw[if_pos cm];rw[if_pos cm]at wf⊢;rw[rdAct g1];simp only[optK_s,asA_s];obtain⟨H2,D2,e2,h2,s2⟩:=modes_s (d+2) (h.new k1) w ok (Whole.keep wy k1 fun _ _ e=>e) hy;rw[show X (d+9) n_62 [.pointer (some ⟨D.p,0,none⟩),.agg ⟨actL a y⟩] H1=_ from e2];exact⟨H2,D2,rfl,h2,wf,(Stp.new k1).trans s2⟩
  ·rw[if_neg cm];rw[if_neg cm]at wf⊢;rw[rdAct g1];simp only[optK_s,asA_s];obtain⟨H2,D2,e2,h2,s2⟩:=gcsi_s d (h.new k1) w ok (Whole.keep wy k1 fun _ _ e=>e) hy;rw[show X (d+9) n_63 [.pointer (some ⟨D.p,0,none⟩),.agg ⟨actL a y⟩] H1=_ from e2];exact⟨H2,D2,rfl,h2,wf,(Stp.new k1).trans s2⟩
 rw[if_neg (show¬decide ((a.kind:Int)=4)=true from dneg (by omega)),if_neg c4];rw[if_neg c4]at wf;exact⟨H1,D,rfl,h.new k1,wf,Stp.new k1⟩
theorem WriteA_s(d:Nat){H:Heap}(t:Tab H){A:GA}{q:GP}(h:Gr H A q){x:Sl}{l:W}(hx:HV H x l)(hl:l.length≤1900000):∃H' A',X (d+11) n_21 [P0 A.D.p,x.v] H=some (.tuple #[],H')∧Gr H' A' (q.write G.doA l)∧GStp H A H' A':=Write_s (d+6) t h hx hl fun a ha=>doA_s d (pFeed_acts h.pd.ok _ a ha)
def fitRow(l:List Cl)(C:Nat):List Cl:=l.take C++List.replicate (C-l.length) blank
def fitPart(L:List (List Cl))(row R:Nat):List (List Cl):=(L.drop (row+1-R)).take R
def fitL(L:List (List Cl))(row R C:Nat):List (List Cl):=(fitPart L row R).map (fitRow · C)++List.replicate (R-(fitPart L row R).length) (List.replicate C blank)
theorem fitRow_len(l:List Cl)(C:Nat):(fitRow l C).length=C:=by unfold fitRow;rw[List.length_append,List.length_take,List.length_replicate];omega
theorem fitL_len(L:List (List Cl))(row R C:Nat):(fitL L row R C).length=R:=by unfold fitL fitPart;rw[List.length_append,List.length_map,List.length_replicate,List.length_take];omega
theorem fitL_w{L:List (List Cl)}{row R C:Nat}:∀l∈fitL L row R C,l.length=C:=fun l hl=>by
 unfold fitL at hl;rcases List.mem_append.1 hl with hl|hl
 ·obtain⟨x,_,rfl⟩:=List.mem_map.1 hl;exact fitRow_len x C
 ·rw[(List.mem_replicate.1 hl).2,List.length_replicate]
theorem fitRow_s(d C:Nat)(hC:C≤1000){H:Heap}{b0:Nat}{l:List Cl}(r:Row H b0 l):∃b H',(∀K:Sl→Heap→Res,(callK (X (d+4) n_52 [.int .i64 (C:Int)] H) fun v4 H5=>asSL v4 fun l6=>effK (.copy 4 false) [l6.v,(wsl b0 l.length).v] H5 fun v7 H8=>asI .i64 v7 fun _=>K l6 H8)=K (wsl b C) H')∧H.next≤b∧Row H' b (fitRow l C)∧Keep0 H H':=by
 obtain⟨b,H5,e5,hb,r5,k5⟩:=line_s d C hC H;have v5:=r5.cv;rw[List.length_replicate]at v5;have vl:=(r.keep k5 id).cv;have hmin:min (wsl b0 l.length).n (List.replicate C blank).length=min l.length C:=by rw[List.length_replicate]
 obtain⟨H8,e8,v8,k8,n8⟩:=v5.copy (x:=wsl b0 l.length) (new:=l.take C) (by
  rw[hmin,vl.src (Nat.min_le_left _ _)];have ht:l.take (min l.length C)=l.take C:=by
   rcases Nat.le_total l.length C with h|h
   ·rw[Nat.min_eq_left h,List.take_length,List.take_of_length_le h]
   ·rw[Nat.min_eq_right h]
  rw[ht]) (by rw[hmin,List.length_take];omega)
 have r8:=v8.row;have hre:[]++(l.take C++(List.replicate C blank).drop (l.take C).length++[])=fitRow l C:=by rw[List.nil_append,List.append_nil,List.drop_replicate,List.length_take];unfold fitRow;rw[show C-min C l.length=C-l.length by omega]
 rw[hre]at r8;refine⟨b,H8,fun K=>?_,hb,r8,k5.fresh k8 fun k e=>by have e':k=b:=e;omega⟩;rw[e5];simp only[callK_s,asSL_k];rw[e8];simp only[asI_s]
theorem fit_s(d:Nat){H:Heap}{s:Sl}{b:Nat}{A Z:List Value}{q:Q}(v:OV H s b A (q.map rowV) Z)(hr:Rows H q)(hq:q.length≤1000){row R C:Nat}(hrow:row<q.length)(hR:1≤R∧R≤60)(hC:C≤1000):∃y p H',X (d+6) n_51 [s.v,.int .i64 (row:Int),.int .i64 (R:Int),.int .i64 (C:Int)] H=some (.tuple #[Sl.v y,.int .i64 ((row+1-R:Nat):Int)],H')∧Outer H' y p∧Rows H' p∧p.map Prod.snd=fitL (q.map Prod.snd) row R C∧(∀k,y.at k→H.next≤k)∧(∀k,bl p k→H.next≤k)∧(∀k,y.at k→¬bl p k)∧Keep0 H H':=by
 have hn:s.n=q.length:=by have:=Vw.hn v;simp at this;omega
 rw[grid_fit_eq];have hlost:(if 0<(IntKind.wrap .i64 ((IntKind.wrap .i64 ((row:Int)-(R:Int)))+1))then(IntKind.wrap .i64 ((IntKind.wrap .i64 ((row:Int)-(R:Int)))+1))else 0)=((row+1-R:Nat):Int):=by rw[w64 (n:=(row:Int)-(R:Int)) (by omega),w64 (by omega)];split<;>omega
 rw[hlost];generalize hlo:row+1-R=lo;have hhi:(if(IntKind.wrap .i64 ((lo:Int)+(R:Int)))<(s.n:Int)then(IntKind.wrap .i64 ((lo:Int)+(R:Int)))else(s.n:Int))=((min (lo+R) q.length:Nat):Int):=by rw[w64 (by omega),hn];split<;>omega
 rw[hhi,Vw.s_lh v (by omega) (by omega)];simp only[optK_s,asSL_k];have vs:=Vw.sub v (l:=lo) (h:=min (lo+R) q.length) (by omega) (by omega);have hsn:(subS s lo (min (lo+R) q.length) 1).n=min (lo+R) q.length-lo:=rfl;generalize hseg:subS s lo (min (lo+R) q.length) 1=seg at*;have hB:((q.map rowV).drop (lo*1)).take ((min (lo+R) q.length-lo)*1)=((q.drop lo).take R).map rowV:=by
  rw[Nat.mul_one,Nat.mul_one,List.map_take,List.map_drop];rcases Nat.le_total (lo+R) q.length with h|h
  ·rw[Nat.min_eq_left h,Nat.add_sub_cancel_left]
  ·rw[Nat.min_eq_right h,List.take_of_length_le (by rw[List.length_drop,List.length_map];exact Nat.le_refl _),List.take_of_length_le (by rw[List.length_drop,List.length_map];omega)]
 rw[hB]at vs;generalize hqs:(q.drop lo).take R=qs at*;have hqsn:qs.length=seg.n:=by have:=Vw.hn vs;simp at this;omega
 have hsub:∀x∈qs,x∈q:=fun x hx=>by rw[←hqs]at hx;exact List.mem_of_mem_drop (List.mem_of_mem_take hx)
 have hqR:qs.length≤R:=by rw[←hqs,List.length_take];omega
 have hpart:fitPart (q.map Prod.snd) row R=qs.map Prod.snd:=by unfold fitPart;rw[hlo,←hqs,List.map_take,List.map_drop]
 have loop:∀(m i:Nat) (y:Sl) (p:Q) (H1:Heap),i≤qs.length→qs.length-i<m→Outer H1 y p→Rows H1 p→p.map Prod.snd=((qs.take i).map Prod.snd).map (fitRow · C)→(∀k,y.at k→H.next≤k)→(∀k,bl p k→H.next≤k)→(∀k,y.at k→¬bl p k)→Keep0 H H1→
   ∃y' p' H',j23 (d+5) m (R:Int) (C:Int) y (lo:Int) seg (seg.n:Int) (i:Int) H1=some (.tuple #[Sl.v y',.int .i64 (lo:Int)],H')∧Outer H' y' p'∧Rows H' p'∧p'.map Prod.snd=fitL (q.map Prod.snd) row R C∧(∀k,y'.at k→H.next≤k)∧(∀k,bl p' k→H.next≤k)∧(∀k,y'.at k→¬bl p' k)∧Keep0 H H':=by
  intro m;induction m with
  |zero=>intro i y p H1 h1 h2;omega
  |succ m ih=>
   intro i y p H1 hi hm ho hp hL h1 h2 h3 hk;have hpl:p.length=i:=by rw[←List.length_map (f:=Prod.snd),hL,List.length_map,List.length_map,List.length_take];omega
   rw[j23_s];by_cases c:i<qs.length
   ·rw[if_pos (show decide ((i:Int)<(seg.n:Int))=true from decide_eq_true (by omega))];have hx:qs[i]?=some qs[i]:=List.getElem?_eq_getElem c;have hmem:qs[i]∈qs:=List.getElem_mem c;have htk:qs.take (i+1)=qs.take i++[qs[i]]:=by rw[List.take_add_one,hx];rfl
    generalize qs[i]=x at hx hmem htk;have v':=Vw.keep vs hk id;obtain⟨a,ea,eb⟩:=OV.ld v' hx;rw[ea];simp only[optK_s];rw[if_pos (show(0:Int)≤(i:Int)∧(i:Int)<(seg.n:Int)by omega),Int.toNat_natCast,eb];simp only[optK_s,rowV,asSL_k2];have hrow':=(hr.1 x (hsub x hmem)).keep hk id;obtain⟨b2,H2,e2,hb2,r2,k2⟩:=fitRow_s (d+1) C hC hrow';rw[show(⟨some ⟨x.1,0,none⟩,x.2.length,x.2.length⟩:Sl).v=(wsl x.1 x.2.length).v from rfl,e2];simp only[newK_s];have ho2:Outer H2 y p:=Whole.keep ho k2 fun _ _ h=>h;have hp2:=hp.keep k2 fun _ _ h=>h;obtain⟨y',H',e1,ho',k3,hy'⟩:=ho2.push (by omega) b2 (fitRow x.2 C);rw[fitRow_len]at e1;rw[e1];simp only[asSL_k];rw[wi (by omega)];have hn1:=hk.1;have hn2:=k2.1;have hbH:∀k,y.at k→k<H1.next:=fun k h=>Whole.lt ho h
    refine ih (i+1) y' (p++[(b2,fitRow x.2 C)]) H' (by omega) (by omega) ho' ?_ ?_ (fun k h=>by have:=hy' k h;omega) (fun k h=>?_) (fun k h h'=>?_) ?_
    ·refine Rows.app (hp2.keep k3 fun k h h'=>h3 k h' h) ⟨fun z hz=>?_,by simp⟩ (fun k h ⟨z,hz,e⟩=>?_)
     ·simp only[List.mem_singleton]at hz;subst hz;exact r2.keep k3 fun h=>by have:=hbH b2 h;omega
     ·simp only[List.mem_singleton]at hz;subst hz;have:=hp.lt h;simp only at e;omega
    ·rw[List.map_append,hL,htk,List.map_append,List.map_append];rfl
    ·rcases bl_app.1 h with h|⟨z,hz,e⟩
     ·exact h2 k h
     ·simp only[List.mem_singleton]at hz;subst hz;simp only at e;omega
    ·have hlt:=hy' k h;rcases bl_app.1 h' with h'|⟨z,hz,e⟩
     ·have:=hp2.lt h';omega
     ·simp only[List.mem_singleton]at hz;subst hz;have:=r2.lt;simp only at e;omega
    ·exact(hk.trans k2).fresh k3 h1
   ·have hie:i=qs.length:=by omega
    subst hie;rw[if_neg (show¬decide ((qs.length:Int)<(seg.n:Int))=true from dneg (by omega))];have yn:=ho.n;rw[show IntKind.wrap .i64 ((R:Int)-(y.n:Int))=((R-qs.length:Nat):Int)by rw[w64 (by omega)];omega];obtain⟨s2,p2,H2,e2,o2,r2,L2,fs2,fp2,dj2,k2⟩:=sheet_s d (R-qs.length) C (by omega) hC H1;rw[e2];simp only[callK_s,asSL_k];have ho2:Outer H2 y p:=Whole.keep ho k2 fun _ _ h=>h;have hp2:=hp.keep k2 fun _ _ h=>h;have hp2l:p2.length=R-qs.length:=by rw[←List.length_map (f:=Prod.snd),L2,List.length_replicate]
    have o2n:=o2.n;obtain⟨z,H3,e3,w3,k3,f3,zn,fz⟩:=append_whole (bytes:=24) (str:=false) (x:=s2.v) (n:=s2.n) (new:=p2.map rowV) ho2 rfl (Whole.src o2) (by rw[List.length_map];omega) (by omega) (by omega) (by omega);rw[e3];simp only[asSL_k];have hn1:=hk.1;have hn2:=k2.1;have hbH:∀k,y.at k→k<H1.next:=fun k h=>Whole.lt ho h
    refine⟨z,p++p2,H3,rfl,by unfold Outer;rw[List.map_append];exact w3,?_,?_,fun k h=>?_,fun k h=>?_,fun k h h'=>?_,(hk.trans k2).fresh k3 h1⟩
    ·exact Rows.app (hp2.keep k3 fun k h h'=>h3 k h' h) (r2.keep k3 fun k h h'=>by have:=fp2 k h;have:=hbH k h';omega) (fun k h h'=>by have:=hp.lt h;have:=fp2 k h';omega)
    ·rw[List.map_append,hL,L2,List.take_length];unfold fitL;rw[hpart,List.length_map]
    ·rcases f3 k h with h|h
     ·exact h1 k h
     ·omega
    ·rcases bl_app.1 h with h|h
     ·exact h2 k h
     ·have:=fp2 k h;omega
    ·rcases f3 k h with hy|hy
     ·rcases bl_app.1 h' with h'|h'
      ·exact h3 k hy h'
      ·have:=fp2 k h';have:=hbH k hy;omega
     ·rcases bl_app.1 h' with h'|h'
      ·have:=hp2.lt h';omega
      ·have:=r2.lt h';omega
 exact loop NN 0 Sl.nil [] H (by omega) (NN_big _ (by omega)) (.inl ⟨rfl,rfl⟩) ⟨(fun _ h=>nomatch h),by simp⟩ rfl (fun k h=>absurd h Sl.at_nil) (fun k h=>absurd h bl_nil) (fun k h=>absurd h Sl.at_nil) (Keep.refl _)
def fitTabs(t:List Bool)(C:Nat):List Bool:=(t++(List.range (C-t.length)).map fun j=>decide ((t.length+j)%8=0)).take C
def G.fitMain(g:G)(R C:Nat):G:=match g.other with
 |none=>{g.keeps ((g.L.take (g.c.row+1-R)).map (fitRow · C))with L:=fitL g.L g.c.row R C,c:={g.c with row:=g.c.row-(g.c.row+1-R)}}
 |some M=>{g.keeps ((M.take (g.c.arow+1-R)).map (fitRow · C))with L:=fitL g.L g.c.row R C,other:=some (fitL M g.c.arow R C),c:={g.c with row:=g.c.row-(g.c.row+1-R),arow:=g.c.arow-(g.c.arow+1-R)}}
def G.sized(g:G)(R C:Nat):G:={g with tabs:=fitTabs g.tabs C,c:={g.c with rows:=R,cols:=C,row:=min g.c.row (R-1),col:=min g.c.col (C-1),due:=false,arow:=min g.c.arow (R-1),acol:=min g.c.acol (C-1),adue:=false,top:=0,bottom:=R-1}}
def G.resize(g:G)(R C:Nat):G:=(g.fitMain R C).sized R C
theorem fitTabs_len(t:List Bool)(C:Nat):(fitTabs t C).length=C:=by unfold fitTabs;rw[List.length_take,List.length_append,List.length_map,List.length_range];omega
theorem fitTabs_snoc{t:List Bool}{C:Nat}(h:t.length<C):fitTabs (t++[decide (t.length%8=0)]) C=fitTabs t C:=by
 unfold fitTabs
 congr 1
 rw[List.length_append,List.length_singleton,List.append_assoc,show C-t.length=(C-(t.length+1))+1 by omega,List.range_succ_eq_map,List.map_cons,List.map_map]
 congr 1
 rw[List.singleton_append,Nat.add_zero]
 congr 1
 apply List.map_congr_left;intro j _;simp only[Function.comp_apply,Nat.succ_eq_add_one];rw[show t.length+1+j=t.length+(j+1)by omega]
theorem fitTabs_done{t:List Bool}{C:Nat}(h:C≤t.length):fitTabs t C=t.take C:=by unfold fitTabs;rw[show C-t.length=0 by omega,List.range_zero,List.map_nil,List.append_nil]
theorem WF.resize{g:G}(w:WF g){R C:Nat}(hR:1≤R∧R≤60)(hC:1≤C∧C≤120):WF (g.resize R C):=by
 have hs:=w.srow;have hs2:=w.scol;have ks:∀l:List (List Cl),WF (g.keeps (l.map (fitRow · C))):=fun l=>w.keeps _ fun x hx=>by obtain⟨y,_,rfl⟩:=List.mem_map.1 hx;have:=fitRow_len y C;exact⟨fun e=>by rw[e]at this;simp at this;omega,by omega⟩
 unfold G.resize G.fitMain;cases ho:g.other with
 |none=>
  have k:=ks (g.L.take (g.c.row+1-R));refine⟨hR.1,hR.2,hC.1,hC.2,?_,?_,?_,?_,?_,hs,hs2,?_,?_,fitL_len _ _ _ _,fitL_w,fitTabs_len _ _,fun M hM=>?_,k.pn,k.pw⟩
  ·show min (g.c.row-(g.c.row+1-R)) (R-1)<R;omega
  ·show min g.c.col (C-1)<C;omega
  ·show 0<R;omega
  ·show 0≤R-1;omega
  ·show R-1<R;omega
  ·show min g.c.arow (R-1)<R;omega
  ·show min g.c.acol (C-1)<C;omega
  ·have:(g.keeps ((g.L.take (g.c.row+1-R)).map (fitRow · C))).other=some M:=hM;rw[(keeps_c _ _).2.2.1,ho]at this;cases this
 |some M0=>
  have k:=ks (M0.take (g.c.arow+1-R));refine⟨hR.1,hR.2,hC.1,hC.2,?_,?_,?_,?_,?_,hs,hs2,?_,?_,fitL_len _ _ _ _,fitL_w,fitTabs_len _ _,fun M hM=>?_,k.pn,k.pw⟩
  ·show min (g.c.row-(g.c.row+1-R)) (R-1)<R;omega
  ·show min g.c.col (C-1)<C;omega
  ·show 0<R;omega
  ·show 0≤R-1;omega
  ·show R-1<R;omega
  ·show min (g.c.arow-(g.c.arow+1-R)) (R-1)<R;omega
  ·show min g.c.acol (C-1)<C;omega
  ·have:some (fitL M0 g.c.arow R C)=some M:=hM;cases this;exact⟨fitL_len _ _ _ _,fitL_w⟩
theorem Stp.cells{H0 H H':Heap}{D0 D:GD}{y:Sl}{p:Q}(s:Stp H0 D0 H D)(k:Keep (fun k=>k=D.p) H H')(fy:∀k,y.at k→H0.next≤k)(fp:∀k,bl p k→H0.next≤k):Stp H0 D0 H' {D with cells:=y,q:=p}:=⟨s.p,s.pp,s.kp.trans k fun i _ e=>⟨0,by have e':i=D.p:=e;rw[e',s.p];rfl⟩,fun i ⟨j,e⟩=>by
 rcases cmp_cells (s:=y) (p:=p) e with ⟨_,e⟩|⟨_,e⟩|e
 ·exact .inr (fy i e)
 ·exact .inr (fp i e)
 ·exact s.ft i ⟨j,e⟩⟩
theorem Rep.setcells{H:Heap}{D:GD}{g:G}(h:Rep H D g){y:Sl}{p:Q}{L':List (List Cl)}(o:Outer H y p)(r:Rows H p)(m:p.map Prod.snd=L')(fy:∀k,y.at k→¬D.foot k)(fp:∀k,bl p k→¬D.foot k)(dj:∀k,y.at k→¬bl p k):∃H',Heap.st1 H ⟨D.p,2,none⟩ y.v=some H'∧Rep H' {D with cells:=y,q:=p} {g with L:=L'}∧Keep (fun k=>k=D.p) H H':=by
 obtain⟨H1,e1,g1,k1,n1⟩:=raw1 (i:=2) (v:=y.v) (c':=g.c) (D':={D with cells:=y,q:=p}) h.get (by omega) rfl;have hS:∀k,(fun k=>k=D.p) k→D.cmp 0 k:=fun k e=>e;have ny:∀k,y.at k→¬(fun k=>k=D.p) k:=fun k e e'=>fy k e ⟨0,e'⟩;have np:∀k,bl p k→¬(fun k=>k=D.p) k:=fun k e e'=>fp k e ⟨0,e'⟩;refine⟨H1,e1,⟨g1,by have:=h.lt;show D.p<_;omega,Whole.keep o k1 ny,r.keep k1 np,m,h.o3 k1 hS (by decide),h.o4 k1 hS (by decide),h.o5 k1 hS (by decide),h.o6 k1 hS (by decide),h.o7 k1 hS (by decide),h.pL,fun i j k a b=>?_⟩,k1⟩;rcases cmp_cells (s:=y) (p:=p) a with ⟨rfl,a⟩|⟨rfl,a⟩|a<;>rcases cmp_cells (s:=y) (p:=p) b with ⟨rfl,b⟩|⟨rfl,b⟩|b
 ·rfl
 ·exact absurd b (dj k a)
 ·exact absurd ⟨j,b⟩ (fy k a)
 ·exact absurd a (dj k b)
 ·rfl
 ·exact absurd ⟨j,b⟩ (fp k a)
 ·exact absurd ⟨i,a⟩ (fy k b)
 ·exact absurd ⟨i,a⟩ (fp k b)
 ·exact h.sep i j k a b
theorem cmp_other{D:GD}{s:Sl}{p:Q}:∀{i k:Nat},({D with other:=s,oq:=p}:GD).cmp i k→(i=4∧s.at k)∨(i=5∧bl p k)∨D.cmp i k
 |0,_,h=>.inr (.inr h)
 |1,_,h=>.inr (.inr h)
 |2,_,h=>.inr (.inr h)
 |3,_,h=>.inr (.inr h)
 |4,_,h=>.inl ⟨rfl,h⟩
 |5,_,h=>.inr (.inl ⟨rfl,h⟩)
 |6,_,h=>.inr (.inr h)
 |7,_,h=>.inr (.inr h)
theorem Stp.others{H0 H H':Heap}{D0 D:GD}{y:Sl}{p:Q}(s:Stp H0 D0 H D)(k:Keep (fun k=>k=D.p) H H')(fy:∀k,y.at k→H0.next≤k)(fp:∀k,bl p k→H0.next≤k):Stp H0 D0 H' {D with other:=y,oq:=p}:=⟨s.p,s.pp,s.kp.trans k fun i _ e=>⟨0,by have e':i=D.p:=e;rw[e',s.p];rfl⟩,fun i ⟨j,e⟩=>by
 rcases cmp_other (s:=y) (p:=p) e with ⟨_,e⟩|⟨_,e⟩|e
 ·exact .inr (fy i e)
 ·exact .inr (fp i e)
 ·exact s.ft i ⟨j,e⟩⟩
theorem Rep.setother{H:Heap}{D:GD}{g:G}(h:Rep H D g){y:Sl}{p:Q}{M':List (List Cl)}(hy:y.a≠none)(o:Outer H y p)(r:Rows H p)(m:p.map Prod.snd=M')(fy:∀k,y.at k→¬D.foot k)(fp:∀k,bl p k→¬D.foot k)(dj:∀k,y.at k→¬bl p k):∃H',Heap.st1 H ⟨D.p,23,none⟩ y.v=some H'∧Rep H' {D with other:=y,oq:=p} {g with other:=some M'}∧Keep (fun k=>k=D.p) H H':=by
 obtain⟨H1,e1,g1,k1,n1⟩:=raw1 (i:=23) (v:=y.v) (c':=g.c) (D':={D with other:=y,oq:=p}) h.get (by omega) rfl;have hS:∀k,(fun k=>k=D.p) k→D.cmp 0 k:=fun k e=>e;have ny:∀k,y.at k→¬(fun k=>k=D.p) k:=fun k e e'=>fy k e ⟨0,e'⟩;have np:∀k,bl p k→¬(fun k=>k=D.p) k:=fun k e e'=>fp k e ⟨0,e'⟩;refine⟨H1,e1,⟨g1,by have:=h.lt;show D.p<_;omega,h.o1 k1 hS (by decide),h.o2 k1 hS (by decide),h.cL,h.o3 k1 hS (by decide),⟨hy,Whole.keep o k1 ny,m⟩,r.keep k1 np,h.o6 k1 hS (by decide),h.o7 k1 hS (by decide),h.pL,fun i j k a b=>?_⟩,k1⟩;rcases cmp_other (s:=y) (p:=p) a with ⟨rfl,a⟩|⟨rfl,a⟩|a<;>rcases cmp_other (s:=y) (p:=p) b with ⟨rfl,b⟩|⟨rfl,b⟩|b
 ·rfl
 ·exact absurd b (dj k a)
 ·exact absurd ⟨j,b⟩ (fy k a)
 ·exact absurd a (dj k b)
 ·rfl
 ·exact absurd ⟨j,b⟩ (fp k a)
 ·exact absurd ⟨i,a⟩ (fy k b)
 ·exact absurd ⟨i,a⟩ (fp k b)
 ·exact h.sep i j k a b
theorem castSI(s:Sl)(n:Int)(K:List Value→Res):castT [.sl,.int .i64] (.tuple ⟨[s.v,.int .i64 n]⟩) K=K [s.v,.int .i64 n]:=rfl
theorem tabs_end{H:Heap}{D:GD}{g:G}(h:Rep H D g){C:Nat}(hC:1≤C∧C≤120)(ht:C≤g.tabs.length):∃y H',readD (.subSl t_4 1 false true true) [D.tabs.v,.int .i64 (C:Int),.int .i64 (C:Int)] H=some (Sl.v y)∧Heap.st1 H ⟨D.p,22,none⟩ y.v=some H'∧Rep H' {D with tabs:=y} {g with tabs:=g.tabs.take C}∧Stp H D H' {D with tabs:=y}:=by
 obtain⟨b,Z,v,hc⟩:=h.ta.vw (by rw[List.length_map];omega);have hn:=h.ta.n;rw[List.length_map]at hn;have ho:=v.opn
 let y:Sl:=⟨D.tabs.a,C,C⟩
 have e0:readD (.subSl t_4 1 false true true) [D.tabs.v,.int .i64 (C:Int),.int .i64 (C:Int)] H=some (Sl.v y):=by simp only[readD,Sl.v,asSl,bnds,asN_s,v.sa];rw[if_pos (by omega)];simp only[Int.toNat_natCast,ho,Bool.or_true,chk,y,v.sa];simp
 have hvm:=v.sub (l:=0) (h:=C) (by omega) (by omega);have vy:Vw H y b [] ((g.tabs.take C).map Value.bool) (((g.tabs.map Value.bool).drop (C*1))++Z) t_4 1:=by obtain⟨a1,a2,a3,a4,o,st,a5⟩:=v;refine⟨a1,by rw[List.length_map,List.length_take];show min C _=C*1;omega,Nat.le_refl _,a4,o,st,?_⟩;rw[a5,Nat.mul_one,List.map_take,←List.append_assoc (List.take C _),List.take_append_drop]
 obtain⟨H1,e1,g1,k1,n1⟩:=raw1 (i:=22) (v:=y.v) (c':=g.c) (D':={D with tabs:=y}) h.get (by omega) rfl;have hS:∀k,(fun k=>k=D.p) k→D.cmp 0 k:=fun k e=>e;have hat:∀k,y.at k→D.tabs.at k:=fun k ⟨a,ha,e⟩=>⟨a,ha,e⟩;have bp:b≠D.p:=fun e=>absurd (h.sep 3 0 b v.at (show D.cmp 0 b from e)) (by decide);refine⟨y,H1,e0,e1,⟨g1,by have:=h.lt;show D.p<_;omega,h.o1 k1 hS (by decide),h.o2 k1 hS (by decide),h.cL,.inr ⟨b,_,vy.keep k1 bp,rfl⟩,h.o4 k1 hS (by decide),h.o5 k1 hS (by decide),h.o6 k1 hS (by decide),h.o7 k1 hS (by decide),h.pL,fun i j k a b=>?_⟩,⟨rfl,rfl,k1.mono fun k _ e=>⟨0,e⟩,fun k ⟨i,e⟩=>?_⟩⟩
 ·have c:∀i,({D with tabs:=y}:GD).cmp i k→D.cmp i k:=fun i e=>by
   rcases cmp_tabs e with ⟨rfl,e⟩|e
   ·exact hat k e
   ·exact e
  exact h.sep i j k (c i a) (c j b)
 ·rcases cmp_tabs e with ⟨_,e⟩|e
  ·exact .inl ⟨3,hat k e⟩
  ·exact .inl ⟨i,e⟩
theorem tabs_fit(d:Nat){C:Nat}(hC:1≤C∧C≤120):∀(m:Nat) {H:Heap} {D:GD} {g:G},C-g.tabs.length<m→g.tabs.length≤1000→Rep H D g→
  ∃H' D',j1k d m D.p (C:Int) (g.tabs.length:Int) H=some (.int .i64 0,H')∧Rep H' D' {g with tabs:=fitTabs g.tabs C}∧Stp H D H' D':=fun m=>by
 induction m with
 |zero=>intro H D g hm;omega
 |succ m ih=>
  intro H D g hm hl h;rw[j1k_s];by_cases c:g.tabs.length<C
  ·rw[if_pos (show decide ((g.tabs.length:Int)<(C:Int))=true from decide_eq_true (by omega)),h.l22];simp only[optK_s,asSL_k,newK_s];have hb:decide (Int.tmod (g.tabs.length:Int) 8=0)=decide (g.tabs.length%8=0):=decide_eq_decide.2 (by rw[Int.tmod_eq_emod_of_nonneg (by omega)];omega);rw[hb];obtain⟨y,H1,H2,e1,e2,h2,s2⟩:=h.tab hl (decide (g.tabs.length%8=0));rw[e1];simp only[asSL_k];rw[e2];simp only[optK_s];rw[wi (by omega)];obtain⟨H',D',e',h',s'⟩:=ih (g:={g with tabs:=g.tabs++[decide (g.tabs.length%8=0)]}) (by simp;omega) (by simp;omega) h2;simp only[List.length_append,List.length_singleton]at e';refine⟨H',D',e',?_,s2.trans s'⟩;rw[←fitTabs_snoc c];exact h'
  ·rw[if_neg (show¬decide ((g.tabs.length:Int)<(C:Int))=true from dneg (by omega)),h.l22];simp only[optK_s,asSL_k];obtain⟨y,H',e1,e2,h',s'⟩:=tabs_end h hC (by omega);rw[e1];simp only[optK_s,asSL_k];rw[e2];simp only[optK_s];refine⟨H',_,rfl,?_,s'⟩;rw[fitTabs_done (by omega)];exact h'
theorem sized_s(d:Nat){R C:Nat}(hR:1≤R∧R≤60)(hC:1≤C∧C≤120){H:Heap}{D:GD}{g:G}(h:Rep H D g)(hl:g.tabs.length≤1000)(hr:g.c.rows=R)(hc:g.c.cols=C){b:Nat}(hb:H.get b=some (.cells [.pointer (some ⟨D.p,3,none⟩),.pointer (some ⟨D.p,24,none⟩)] t_128 false 0 false))(hbl:b<H.next)(hbf:¬D.foot b)(m:Nat):∃H' D',jc d (m+3) D.p (R:Int) (C:Int) ⟨some ⟨b,0,none⟩,2,2⟩ 2 0 H=some (.int .i64 0,H')∧Rep H' D' (g.sized R C)∧Stp H D H' D':=by
 subst hr hc;have hm1:∀n:Nat,(if(IntKind.wrap .i64 ((g.c.rows:Int)-1))<(n:Int)then(IntKind.wrap .i64 ((g.c.rows:Int)-1))else(n:Int))=((min n (g.c.rows-1):Nat):Int):=fun n=>by rw[w64 (by omega)];split<;>omega
 have hm2:∀n:Nat,(if(IntKind.wrap .i64 ((g.c.cols:Int)-1))<(n:Int)then(IntKind.wrap .i64 ((g.c.cols:Int)-1))else(n:Int))=((min n (g.c.cols-1):Nat):Int):=fun n=>by rw[w64 (by omega)];split<;>omega
 rw[jc_s,if_pos (show decide ((0:Int)<2)=true from rfl)];simp only[optK_s];rw[if_pos (show 0≤(0:Int)∧(0:Int)<((2:Nat):Int)by omega),show ap ⟨b,0,none⟩ (((0:Int).toNat)*1)=⟨b,0,none⟩from rfl,(ld1_s hb).trans (show [Value.pointer (some ⟨D.p,3,none⟩),.pointer (some ⟨D.p,24,none⟩)][0]?=some (.pointer (some ⟨D.p,3,none⟩))from rfl)];simp only[optK_s,asP_s,nilP_s];rw[show ap ⟨D.p,3,none⟩ 0=⟨D.p,3,none⟩from rfl,show ap ⟨D.p,3,none⟩ 1=⟨D.p,4,none⟩from rfl,show ap ⟨D.p,3,none⟩ 2=⟨D.p,5,none⟩from rfl,h.l3,h.l4];simp only[optK_s,asI_s];rw[hm1,hm2];obtain⟨H1,e1,h1,s1⟩:=h.s3 (min g.c.row (g.c.rows-1));rw[e1];simp only[optK_s];obtain⟨H2,e2,h2,s2⟩:=h1.s4 (min g.c.col (g.c.cols-1));rw[e2];simp only[optK_s];obtain⟨H3,e3,h3,s3⟩:=h2.s5 false;rw[e3];simp only[optK_s];have st3:=(s1.trans s2).trans s3;have hb3:H3.get b=some (.cells [.pointer (some ⟨D.p,3,none⟩),.pointer (some ⟨D.p,24,none⟩)] t_128 false 0 false):=(st3.kp.2 b hbl hbf).trans hb;rw[jc_s,if_pos (show decide (IntKind.wrap .i64 ((0:Int)+1)<2)=true from by decide)];simp only[optK_s];rw[if_pos (show 0≤IntKind.wrap .i64 ((0:Int)+1)∧IntKind.wrap .i64 ((0:Int)+1)<((2:Nat):Int)by decide),show ap ⟨b,0,none⟩ (((IntKind.wrap .i64 ((0:Int)+1)).toNat)*1)=⟨b,1,none⟩from rfl,(ld1_s hb3).trans (show [Value.pointer (some ⟨D.p,3,none⟩),.pointer (some ⟨D.p,24,none⟩)][1]?=some (.pointer (some ⟨D.p,24,none⟩))from rfl)];simp only[optK_s,asP_s,nilP_s];rw[show ap ⟨D.p,24,none⟩ 0=⟨D.p,24,none⟩from rfl,show ap ⟨D.p,24,none⟩ 1=⟨D.p,25,none⟩from rfl,show ap ⟨D.p,24,none⟩ 2=⟨D.p,26,none⟩from rfl,h3.l24,h3.l25];simp only[optK_s,asI_s];rw[hm1,hm2];obtain⟨H4,e4,h4,s4⟩:=h3.s24 (min g.c.arow (g.c.rows-1));rw[e4];simp only[optK_s];obtain⟨H5,e5,h5,s5⟩:=h4.s25 (min g.c.acol (g.c.cols-1));rw[e5];simp only[optK_s];obtain⟨H6,e6,h6,s6⟩:=h5.s26 false;rw[e6];simp only[optK_s];rw[jc_s,if_neg (show¬decide (IntKind.wrap .i64 ((IntKind.wrap .i64 ((0:Int)+1))+1)<2)=true from by decide)];obtain⟨H7,e7,h7,s7⟩:=h6.s17 0;rw[show(0:Int)=((0:Nat):Int)from rfl,e7];simp only[optK_s];rw[show IntKind.wrap .i64 ((g.c.rows:Int)-1)=((g.c.rows-1:Nat):Int)by rw[w64 (by omega)];omega];obtain⟨H8,e8,h8,s8⟩:=h7.s18 (g.c.rows-1);rw[e8];simp only[optK_s];rw[h8.l22];simp only[optK_s,asSL_k];have hn:=h8.ta.n;rw[List.length_map]at hn;rw[show(D.tabs.n:Int)=(g.tabs.length:Int)by rw[hn]];obtain⟨H',D',e',h',s'⟩:=tabs_fit d hC NN (NN_big _ (by show g.c.cols-g.tabs.length<_;omega)) (by exact hl) h8;exact⟨H',D',e',h',(((((st3.trans s4).trans s5).trans s6).trans s7).trans s8).trans s'⟩
theorem NN3:∃m,NN=m+3:=⟨NN-3,by rw[NN_eq]⟩
set_option maxRecDepth 100000 in
theorem keeps_pn(l:List (List Cl)):∀{g:G},g.past.length≤200→(g.keeps l).past.length≤200:=by
 induction l with
 |nil=>intro g h;exact h
 |cons a l ih=>intro g h;exact ih (g:=g.keep a) (by simp only[G.keep,List.length_drop,List.length_append,List.length_singleton];omega)
set_option maxRecDepth 100000 in
theorem keeps_past(l:List (List Cl)):∀{g g':G},g.past=g'.past→(g.keeps l).past=(g'.keeps l).past:=by
 induction l with
 |nil=>intro g g' h;exact h
 |cons a l ih=>intro g g' h;exact ih (g:=g.keep a) (g':=g'.keep a) (by simp only[G.keep,h])
theorem keeps_loop(d:Nat){H6:Heap}{D:GD}{g:G}(pn:g.past.length≤200){s:Sl}{q:Q}{lo C:Nat}{R:Int}(hC:1≤C∧C≤120)(hlo:lo≤q.length)(hq:q.length≤1000)(hsn:s.n=q.length)(hview:∀{H1:Heap} {D1:GD} {g1:G},Rep H1 D1 g1→OnlyP D D1→g1.other=g.other→(∃b,OV H1 s b [] (q.map rowV) [])∧Rows H1 q)(x7 x8:Addr)(x11:Sl):
  ∀(m i:Nat) {H:Heap} {D1:GD},lo-i<m→i≤lo→Rep H D1 (g.keeps (((q.map Prod.snd).take i).map (fitRow · C)))→OnlyP D D1→Stp H6 D H D1→
  ∃m' H' D',jb (d+6) m D.p R (C:Int) x7 x8 x11 (lo:Int) (subS s 0 lo 1) (lo:Int) (i:Int) H=jb (d+6) (m'+1) D.p R (C:Int) x7 x8 x11 (lo:Int) (subS s 0 lo 1) (lo:Int) (lo:Int) H'∧Rep H' D' (g.keeps (((q.map Prod.snd).take lo).map (fitRow · C)))∧OnlyP D D'∧Stp H6 D H' D':=fun m=>by
 induction m with
 |zero=>intro i H D1 hm;omega
 |succ m ih=>
  intro i H D1 hm hi h op st;by_cases c:i<lo
  ·rw[jb_s,if_pos (show decide ((i:Int)<(lo:Int))=true from decide_eq_true (by omega))];obtain⟨⟨b,v⟩,rows⟩:=hview h op (keeps_c _ _).2.2.1;have vs:=Vw.sub v (l:=0) (h:=lo) (by omega) (by omega);have hx:q[i]?=some q[i]:=List.getElem?_eq_getElem (by omega);have hmem:q[i]∈q:=List.getElem_mem (by omega);generalize q[i]=x at hx hmem;have hcell:(((q.map rowV).drop (0*1)).take ((lo-0)*1))[i]?=some (rowV x):=by rw[Nat.zero_mul,List.drop_zero,Nat.mul_one,Nat.sub_zero,List.getElem?_take_of_lt c,List.getElem?_map,hx];rfl
   have hld:=Vw.ld vs hcell;rw[Vw.sa vs];simp only[optK_s];have hsn2:(subS s 0 lo 1).n=lo:=rfl;rw[if_pos (show(0:Int)≤(i:Int)∧(i:Int)<((subS s 0 lo 1).n:Int)by rw[hsn2];omega),Int.toNat_natCast];simp only[ap];rw[show i*1=i from Nat.mul_one i,hld];simp only[optK_s,rowV,asSL_k2];obtain⟨b2,H2,e2,hb2,r2,k2⟩:=fitRow_s (d+2) C (by omega) (rows.1 x hmem);rw[show(⟨some ⟨x.1,0,none⟩,x.2.length,x.2.length⟩:Sl).v=(wsl x.1 x.2.length).v from rfl,e2];have hfl:=fitRow_len x.2 C;obtain⟨H5,D5,e5,h5,s5,op5,_⟩:=keep_s (d+4) (h.new k2) (keeps_pn _ pn) r2 (fun e=>by rw[e]at hfl;simp at hfl;omega) (by omega);rw[op.p,hfl]at e5;rw[e5];simp only[callK_s];rw[wi (by omega)];have hxL:(q.map Prod.snd)[i]?=some x.2:=by rw[List.getElem?_map,hx];rfl
   have htk:((q.map Prod.snd).take (i+1)).map (fitRow · C)=((q.map Prod.snd).take i).map (fitRow · C)++[fitRow x.2 C]:=by rw[List.take_add_one,hxL,List.map_append];rfl
   exact ih (i+1) (by omega) (by omega) (by rw[htk,keeps_snoc];exact h5) ⟨op5.p.trans op.p,op5.pp.trans op.pp,op5.cells.trans op.cells,op5.q.trans op.q,op5.tabs.trans op.tabs,op5.other.trans op.other,op5.oq.trans op.oq⟩ ((st.trans (Stp.new k2)).trans s5)
  ·have:i=lo:=by omega
   subst this;exact⟨m,H,D1,rfl,h,op,st⟩
theorem rest_s(d:Nat){R C:Nat}(hR:1≤R∧R≤60)(hC:1≤C∧C≤120){H0 H:Heap}{D0 D:GD}{g:G}(h:Rep H D g)(st:Stp H0 D0 H D)(hl:g.tabs.length≤1000):∃H' D',(optK (Heap.st1 H ⟨D.p,0,none⟩ (.int .i64 (R:Int))) fun H16=>optK (Heap.st1 H16 ⟨D.p,1,none⟩ (.int .i64 (C:Int))) fun H17=>newK H17 (.cells [.pointer (some ⟨D.p,3,none⟩),.pointer (some ⟨D.p,24,none⟩)] t_128 false 0 false) fun p18 H19=>jc d NN D.p (R:Int) (C:Int) ⟨some ⟨p18,0,none⟩,2,2⟩ 2 0 H19)=some (.int .i64 0,H')∧Rep H' D' (g.sized R C)∧Stp H0 D0 H' D':=by
 obtain⟨H1,e1,h1,s1⟩:=h.s0 R;rw[show Heap.st1 H ⟨D.p,0,none⟩ (.int .i64 (R:Int))=some H1 from e1];simp only[optK_s];obtain⟨H2,e2,h2,s2⟩:=h1.s1 C;rw[e2];simp only[optK_s,newK_s];have k3:Keep0 H2 (H2.new (.cells [.pointer (some ⟨D.p,3,none⟩),.pointer (some ⟨D.p,24,none⟩)] t_128 false 0 false)):=Keep.new _ _;have g3:(H2.new (.cells [.pointer (some ⟨D.p,3,none⟩),.pointer (some ⟨D.p,24,none⟩)] t_128 false 0 false)).get H2.next=some (.cells [.pointer (some ⟨D.p,3,none⟩),.pointer (some ⟨D.p,24,none⟩)] t_128 false 0 false):=by simp
 have n3:(H2.new (.cells [.pointer (some ⟨D.p,3,none⟩),.pointer (some ⟨D.p,24,none⟩)] t_128 false 0 false)).next=H2.next+1:=by simp
 have h3:=h2.new k3;generalize H2.new (.cells [.pointer (some ⟨D.p,3,none⟩),.pointer (some ⟨D.p,24,none⟩)] t_128 false 0 false)=H3 at*;obtain⟨m,hm⟩:=NN3;rw[hm];obtain⟨H',D',e',h',s'⟩:=sized_s d hR hC h3 hl rfl rfl g3 (by omega) (fun e=>by have:=h2.ltF e;omega) m;exact⟨H',D',e',h',(((st.trans s1).trans s2).trans (Stp.new k3)).trans s'⟩
theorem resize_s(d:Nat){H:Heap}{D:GD}{g:G}(h:Rep H D g)(w:WF g){R C:Nat}(hR:1≤R∧R≤60)(hC:1≤C∧C≤120):
  ∃H' D',X (d+7) n_33 [P0 D.p,.int .i64 (R:Int),.int .i64 (C:Int)] H=some (.int .i64 0,H')∧Rep H' D' (g.resize R C)∧Stp H D H' D':=by
 have hql:=h.ql;have hLn:=w.Ln;have r2:=w.r2;have hrow:=w.row;have harow:=w.arow;have htn:=w.tn;have c2:=w.c2;have pn:=w.pn;rw[grid_Grid_Resize_eq,show X (d+6) n_29 [.int .i64 (R:Int),.int .i64 (C:Int)] H=_ from size_s (d+5) H hR hC];simp only[callK_s,asB_s];rw[if_neg (show¬(!true)=true by simp),h.l23];simp only[optK_s,asSL_k];have hne:D.cells.a≠none:=h.co.some (by intro e;rw[e]at hql;simp at hql;omega);obtain⟨bc,vc,_⟩:=h.co.ov hne;have hcn:=h.co.n;obtain⟨y,p,H6,e6,o6,r6,m6,fy,fp,dj,k6⟩:=fit_s d vc h.cr (by omega) (row:=g.c.row) (by omega) hR (by omega) (C:=C);rw[h.cL]at m6;have n6:=k6.1;have h6:=h.new k6;have ny:∀k,y.at k→¬D.foot k:=fun k e e'=>by have:=fy k e;have:=h.ltF e';omega
 have np:∀k,bl p k→¬D.foot k:=fun k e e'=>by have:=fp k e;have:=h.ltF e';omega
 have ly:∀k,y.at k→k<H6.next:=fun k e=>Whole.lt o6 e
 have lp:∀k,bl p k→k<H6.next:=fun k e=>r6.lt e
 unfold G.resize G.fitMain;cases ho:g.other with
 |none=>
  have hoo:=h.oo;rw[ho]at hoo;rw[hoo.1,if_neg (show¬(!Sl.nil.a.isNone)=true by decide),j1j_eq,h.l2];simp only[optK_s,asSL_k];rw[show ap ⟨D.p,3,none⟩ 0=⟨D.p,3,none⟩from rfl,h.l3];simp only[optK_s,asI_s];rw[e6,callK_s,castSI,castSI];simp only[List.getElem?_cons_zero,List.getElem?_cons_succ,optK_s,asSL_k,asI_s];rw[h6.l2];simp only[optK_s,asSL_k];obtain⟨b1,v1,_⟩:=h6.co.ov hne;rw[Vw.s_h v1 (show g.c.row+1-R≤D.cells.n by omega)];simp only[optK_s,asSL_k];have hsn:(subS D.cells 0 (g.c.row+1-R) 1).n=g.c.row+1-R:=rfl;rw[hsn];obtain⟨m',H7,D7,e7,h7,op,s7⟩:=keeps_loop d pn (q:=D.q) (R:=(R:Int)) hC (show g.c.row+1-R≤D.q.length by omega) (by omega) hcn (fun{H1 D1 g1} h1 op _=>by
   have hne1:D1.cells.a≠none:=by rw[op.cells];exact hne
   obtain⟨b1,v1,_⟩:=h1.co.ov hne1;rw[op.cells,op.q]at v1;exact⟨⟨b1,v1⟩,by rw[←op.q];exact h1.cr⟩) ⟨D.p,2,none⟩ ⟨D.p,3,none⟩ y NN 0 (NN_big _ (by omega)) (by omega) h6 ⟨rfl,rfl,rfl,rfl,rfl,rfl,rfl⟩ (Stp.refl H6 D)
  rw[show(0:Int)=((0:Nat):Int)from rfl,e7,jb_s,if_neg (show¬decide (((g.c.row+1-R:Nat):Int)<((g.c.row+1-R:Nat):Int))=true from dneg (by omega))];rw[h.cL]at h7;have hgc:=(keeps_c ((g.L.take (g.c.row+1-R)).map (fitRow · C)) g);generalize hgk:g.keeps ((g.L.take (g.c.row+1-R)).map (fitRow · C))=gk at h7 hgc⊢;obtain⟨gc1,gc2,gc3,gc4⟩:=hgc;have f7:∀k,D7.foot k→D.foot k∨H6.next≤k:=s7.ft
  obtain⟨H8,e8,h8,k8⟩:=h7.setcells (Whole.keep o6 s7.kp ny) (r6.keep s7.kp np) m6 (fun k e e'=>(f7 k e').elim (ny k e) fun e'=>by have:=ly k e;omega) (fun k e e'=>(f7 k e').elim (np k e) fun e'=>by have:=lp k e;omega) dj;have s8:=((Stp.new k6).trans s7).cells k8 fy fp;rw[op.p]at e8;rw[e8];simp only[optK_s];have l3:=h8.l3;rw[show({D7 with cells:=y,q:=p}:GD).p=D.p from op.p]at l3;rw[show ap ⟨D.p,3,none⟩ 0=⟨D.p,3,none⟩from rfl,l3];simp only[optK_s,asI_s];rw[show(({gk with L:=fitL g.L g.c.row R C}:G).c.row)=g.c.row from by rw[gc1],show IntKind.wrap .i64 ((g.c.row:Int)-((g.c.row+1-R:Nat):Int))=((g.c.row-(g.c.row+1-R):Nat):Int)by rw[w64 (by omega)];omega];obtain⟨H9,e9,h9,s9⟩:=h8.s3 (g.c.row-(g.c.row+1-R));rw[show({D7 with cells:=y,q:=p}:GD).p=D.p from op.p]at e9;rw[e9];simp only[optK_s];obtain⟨H',D',e',h',s'⟩:=rest_s (d+6) hR hC h9 (s8.trans s9) (by show gk.tabs.length≤1000;rw[gc4];omega);rw[show({D7 with cells:=y,q:=p}:GD).p=D.p from op.p]at e';refine⟨H',D',e',?_,s'⟩;rw[gc1]at h';exact h'
 |some M=>
  have hoo:=h.oo;rw[ho]at hoo;obtain⟨oo1,oo2,oo3⟩:=hoo;have hMn:=(w.on M ho).1;rw[if_pos (show(!D.other.a.isNone)=true by cases hh:D.other.a with
   |none=>exact absurd hh oo1
   |some _=>rfl),h.l2]
  simp only[optK_s,asSL_k];rw[h.l3];simp only[optK_s,asI_s];rw[e6,callK_s,castSI,castSI];simp only[List.getElem?_cons_zero,List.getElem?_cons_succ,optK_s,asSL_k,asI_s];obtain⟨H7,e7,h7,k7⟩:=h6.setcells o6 r6 m6 ny np dj;have s7:=(Stp.new k6).cells k7 fy fp;rw[e7];simp only[optK_s];rw[show Heap.ld1 H7 ⟨D.p,3,none⟩=some (.int .i64 (g.c.row:Int))from h7.l3];simp only[optK_s,asI_s];rw[show IntKind.wrap .i64 ((g.c.row:Int)-((g.c.row+1-R:Nat):Int))=((g.c.row-(g.c.row+1-R):Nat):Int)by rw[w64 (by omega)];omega];obtain⟨H8,e8,h8,s8⟩:=h7.s3 (g.c.row-(g.c.row+1-R));rw[show Heap.st1 H7 ⟨D.p,3,none⟩ (.int .i64 ((g.c.row-(g.c.row+1-R):Nat):Int))=some H8 from e8];simp only[optK_s];have st8:=s7.trans s8;rw[j1j_eq,show Heap.ld1 H8 ⟨D.p,23,none⟩=some D.other.v from h8.l23];simp only[optK_s,asSL_k];rw[show ap ⟨D.p,24,none⟩ 0=⟨D.p,24,none⟩from rfl,show Heap.ld1 H8 ⟨D.p,24,none⟩=some (.int .i64 (g.c.arow:Int))from h8.l24];simp only[optK_s,asI_s];have oo8:OtherO H8 D.other D.oq g.other:=h8.oo;rw[ho]at oo8;have hoq:D.oq.length=M.length:=by rw[←oo3,List.length_map]
  obtain⟨b8,v8,_⟩:=oo8.2.1.ov oo1;have hon:=oo8.2.1.n;obtain⟨z,t,H9,e9,o9,r9,m9,fz,ft,dj9,k9⟩:=fit_s d v8 h8.or (by omega) (row:=g.c.arow) (by omega) hR (by omega) (C:=C);rw[oo3]at m9;rw[e9,callK_s,castSI,castSI];simp only[List.getElem?_cons_zero,List.getElem?_cons_succ,optK_s,asSL_k,asI_s];have h9:=h8.new k9;have n9:=k9.1;have n8:=st8.kp.1;rw[show Heap.ld1 H9 ⟨D.p,23,none⟩=some D.other.v from h9.l23];simp only[optK_s,asSL_k];have v9:=Vw.keep v8 k9 id;rw[Vw.s_h v9 (show g.c.arow+1-R≤D.other.n by omega)];simp only[optK_s,asSL_k];have hsn:(subS D.other 0 (g.c.arow+1-R) 1).n=g.c.arow+1-R:=rfl;rw[hsn];obtain⟨m',H10,D10,e10,h10,op,s10⟩:=keeps_loop (D:={D with cells:=y,q:=p}) (s:=D.other) d (by exact pn) (q:=D.oq) (R:=(R:Int)) hC (show g.c.arow+1-R≤D.oq.length by omega) (by omega) hon (fun{H1 D1 g1} h1 op eo=>by
   have oo:OtherO H1 D1.other D1.oq g.other:=by have:=h1.oo;rw[eo]at this;exact this
   rw[ho,op.other,op.oq]at oo;obtain⟨b1,v1,_⟩:=oo.2.1.ov oo1;exact⟨⟨b1,v1⟩,by have:=h1.or;rw[op.oq]at this;exact this⟩) ⟨D.p,23,none⟩ ⟨D.p,24,none⟩ z NN 0 (NN_big _ (by omega)) (by omega) h9 ⟨rfl,rfl,rfl,rfl,rfl,rfl,rfl⟩ (Stp.refl H9 _)
  rw[show(0:Int)=((0:Nat):Int)from rfl,e10,jb_s,if_neg (show¬decide (((g.c.arow+1-R:Nat):Int)<((g.c.arow+1-R:Nat):Int))=true from dneg (by omega))];rw[oo3]at h10;have f10:∀k,D10.foot k→({D with cells:=y,q:=p}:GD).foot k∨H9.next≤k:=s10.ft
  have lf8:∀k,({D with cells:=y,q:=p}:GD).foot k→k<H8.next:=fun k e=>h8.ltF e
  have lz:∀k,z.at k→k<H9.next:=fun k e=>Whole.lt o9 e
  have lt9:∀k,bl t k→k<H9.next:=fun k e=>r9.lt e
  have nz:∀k,z.at k→¬({D with cells:=y,q:=p}:GD).foot k:=fun k e e'=>by have:=fz k e;have:=lf8 k e';omega
  have nt:∀k,bl t k→¬({D with cells:=y,q:=p}:GD).foot k:=fun k e e'=>by have:=ft k e;have:=lf8 k e';omega
  have hzne:z.a≠none:=o9.some (by intro e;rw[e]at m9;have:=congrArg List.length m9;rw[fitL_len]at this;simp at this;omega);obtain⟨H11,e11,h11,k11⟩:=h10.setother hzne (Whole.keep o9 s10.kp nz) (r9.keep s10.kp nt) m9 (fun k e e'=>(f10 k e').elim (nz k e) fun e'=>by have:=lz k e;omega) (fun k e e'=>(f10 k e').elim (nt k e) fun e'=>by have:=lt9 k e;omega) dj9;have s11:=((st8.trans (Stp.new k9)).trans s10).others k11 (fun k e=>by have:=fz k e;omega) (fun k e=>by have:=ft k e;omega);have op11:({D10 with other:=z,oq:=t}:GD).p=D.p:=op.p;rw[op.p]at e11;rw[e11];simp only[optK_s];have l24:=h11.l24;rw[op11]at l24;rw[show ap ⟨D.p,24,none⟩ 0=⟨D.p,24,none⟩from rfl,l24];simp only[optK_s,asI_s];have hgc:=(keeps_c ((M.take (g.c.arow+1-R)).map (fitRow · C)) ({ {g with L:=fitL g.L g.c.row R C}with c:={g.c with row:=g.c.row-(g.c.row+1-R)}}:G));have hgp:=keeps_past ((M.take (g.c.arow+1-R)).map (fitRow · C)) (g:=({ {g with L:=fitL g.L g.c.row R C}with c:={g.c with row:=g.c.row-(g.c.row+1-R)}}:G)) (g':=g) rfl;generalize ({ {g with L:=fitL g.L g.c.row R C}with c:={g.c with row:=g.c.row-(g.c.row+1-R)}}:G).keeps ((M.take (g.c.arow+1-R)).map (fitRow · C))=gk at h11 hgc hgp⊢;obtain⟨gc1,gc2,gc3,gc4⟩:=hgc;rw[show(({gk with other:=some (fitL M g.c.arow R C)}:G).c.arow)=g.c.arow from by rw[gc1],show IntKind.wrap .i64 ((g.c.arow:Int)-((g.c.arow+1-R:Nat):Int))=((g.c.arow-(g.c.arow+1-R):Nat):Int)by rw[w64 (by omega)];omega];obtain⟨H12,e12,h12,s12⟩:=h11.s24 (g.c.arow-(g.c.arow+1-R));rw[op11]at e12;rw[e12];simp only[optK_s];obtain⟨H',D',e',h',s'⟩:=rest_s (d+6) hR hC h12 (s11.trans s12) (by show gk.tabs.length≤1000;rw[gc4];show g.tabs.length≤1000;omega);rw[op11]at e';refine⟨H',D',e',?_,s'⟩;have hgk2:=keeps_c ((M.take (g.c.arow+1-R)).map (fitRow · C)) g;obtain⟨gkc,gkL,gko,gkt,gkp⟩:=gk;simp only at gc1 gc2 gc3 gc4 hgp;subst gc1 gc2 gc4;obtain⟨q1,q2,q3,q4⟩:=hgk2;generalize g.keeps ((M.take (g.c.arow+1-R)).map (fitRow · C))=g2 at q1 q2 q3 q4 hgp⊢;obtain⟨g2c,g2L,g2o,g2t,g2p⟩:=g2;simp only at q1 q2 q3 q4 hgp;subst q4 hgp;exact h'
def scrL(c:Sc)(y:Sl):List Value:=[.int .i64 c.rows,.int .i64 c.cols,y.v,.int .i64 c.row,.int .i64 c.col,.bool c.hidden]
theorem Screen_s(d:Nat){H:Heap}{D:GD}{g:G}(h:Rep H D g)(w:WF g):∃y p H',X (d+3) n_23 [P0 D.p] H=some (.agg ⟨scrL g.c y⟩,H')∧Outer H' y p∧Rows H' p∧p.map Prod.snd=g.L∧(∀k,y.at k→H.next≤k)∧(∀k,bl p k→H.next≤k)∧(∀k,y.at k→¬bl p k)∧Keep0 H H':=by
 have r1:=w.r1;have r2:=w.r2;have c1:=w.c1;have c2:=w.c2;have hql:=h.ql;have hLn:=w.Ln;rw[grid_Grid_Screen_eq];simp only[newK_s];have k2:Keep0 H (H.new (.cells [.int .i64 0,.int .i64 0,.slice none 0 0,.int .i64 0,.int .i64 0,.bool false] t_38 false 0 false)):=Keep.new _ _;have g2:(H.new (.cells [.int .i64 0,.int .i64 0,.slice none 0 0,.int .i64 0,.int .i64 0,.bool false] t_38 false 0 false)).get H.next=some (.cells [.int .i64 0,.int .i64 0,.slice none 0 0,.int .i64 0,.int .i64 0,.bool false] t_38 false 0 false):=by simp
 have n2:(H.new (.cells [.int .i64 0,.int .i64 0,.slice none 0 0,.int .i64 0,.int .i64 0,.bool false] t_38 false 0 false)).next=H.next+1:=by simp
 generalize H.new (.cells [.int .i64 0,.int .i64 0,.slice none 0 0,.int .i64 0,.int .i64 0,.bool false] t_38 false 0 false)=H2 at*;have h2:=h.new k2;rw[h2.l0,h2.l1];simp only[optK_s,asI_s];rw[h2.l2];simp only[optK_s,asSL_k];have hne:D.cells.a≠none:=h2.co.some (by intro e;rw[e]at hql;simp at hql;omega);obtain⟨b,v,_⟩:=h2.co.ov hne;have hrows:∀x∈D.q,x.2≠[]∧x.2.length≤1000:=fun x hx=>by have hl:=w.Lw x.2 (by rw[←h.cL];exact List.mem_map_of_mem hx);exact⟨fun e=>by rw[e]at hl;simp at hl;omega,by omega⟩
 obtain⟨y,p,H10,e,a1,a2,a3,a4,a5,a6,k10⟩:=copied_s d (.inl v) h2.cr hrows (by omega);rw[e];simp only[callK_s,asSL_k];have h10:=h2.new k10;rw[h10.l3,h10.l4];simp only[optK_s,asI_s];rw[h10.l21];simp only[optK_s,asB_s];have g10:=k10.get (by omega) g2;have es:Heap.stN H10 ⟨H.next,0,none⟩ [.int .i64 g.c.rows,.int .i64 g.c.cols,y.v,.int .i64 g.c.row,.int .i64 g.c.col,.bool g.c.hidden]=some (H10.put H.next (.cells (scrL g.c y) t_38 false 0 false)):=by simp only[Heap.stN,g10];rfl
 rw[es];simp only[optK_s];rw[show rdsOk [H2,H10,H10.put H.next (.cells (scrL g.c y) t_38 false 0 false)] [⟨.load 1 false,[.pointer (some ⟨D.p,21,none⟩)],.bool g.c.hidden,0,1⟩,⟨.load 1 false,[.pointer (some ⟨D.p,4,none⟩)],.int .i64 g.c.col,0,1⟩,⟨.load 1 false,[.pointer (some ⟨D.p,3,none⟩)],.int .i64 g.c.row,0,1⟩,⟨.load 1 false,[.pointer (some ⟨D.p,1,none⟩)],.int .i64 g.c.cols,0,1⟩,⟨.load 1 false,[P0 D.p],.int .i64 g.c.rows,0,1⟩]=true from by simp only[rdsOk,Bool.and_true];rw[show 1+1-0=2 from rfl,rdOk_2,rdOk_2,rdOk_2,rdOk_2,rdOk_2,rdAt_s rfl (rd1' h2.l21) (same_bool _),rdAt_s rfl (rd1' h10.l21) (same_bool _),rdAt_s rfl (rd1' h2.l4) (same_int _ _),rdAt_s rfl (rd1' h10.l4) (same_int _ _),rdAt_s rfl (rd1' h2.l3) (same_int _ _),rdAt_s rfl (rd1' h10.l3) (same_int _ _),rdAt_s rfl (rd1' h2.l1) (same_int _ _),rdAt_s rfl (rd1' h10.l1) (same_int _ _),rdAt_s rfl (rd1' h2.l0) (same_int _ _),rdAt_s rfl (rd1' h10.l0) (same_int _ _)];rfl];simp only[chk_s];have kp:Keep (fun k=>k=H.next) H10 (H10.put H.next (.cells (scrL g.c y) t_38 false 0 false)):=Keep.put _ _ _ rfl;have gp:(H10.put H.next (.cells (scrL g.c y) t_38 false 0 false)).get H.next=some (.cells (scrL g.c y) t_38 false 0 false):=by simp
 generalize H10.put H.next (.cells (scrL g.c y) t_38 false 0 false)=H18 at*
 have hr:readD (.load 6 true) [P0 H.next] H18=some (.agg ⟨scrL g.c y⟩):=by simp only[readD,if_true];rw[ldN_s gp (by show 0+6≤6;omega)];rfl
 have g0:Fr.get [(2,P0 H.next)] 2=some (P0 H.next):=rfl;refine⟨y,p,H18,by simp only[retK,resL,g0,hr],Whole.keep a1 kp fun k e e'=>by have e'':k=H.next:=e';have:=a4 k e;omega,a2.keep kp fun k e e'=>by have e'':k=H.next:=e';have:=a5 k e;omega,a3.trans h.cL,fun k e=>by have:=a4 k e;omega,fun k e=>by have:=a5 k e;omega,a6,(k2.trans k10).fresh kp fun k e=>by have e':k=H.next:=e;omega⟩
end Go.Proofs.YtjjchnjcmnkpdaaDoor.dec
namespace Go.Proofs.YtjjchnjcmnkpdaaDoor.dec
open Go Go.Cm
def Tl(H:Heap)(s:Sl)(l:List UInt8):Prop:=(s=Sl.nil∧l=[])∨∃b A,Vw H s b A (bc l) [] t_5 1∧s.c=s.n
theorem Tl.nil(H:Heap):Tl H Sl.nil []:=.inl ⟨rfl,rfl⟩
theorem Tl.keep{S:Nat→Prop}{H H':Heap}{s:Sl}{l:List UInt8}(h:Tl H s l)(hk:Keep S H H')(hn:∀k,s.at k→¬S k):Tl H' s l:=by
 rcases h with h|⟨b,A,v,hc⟩
 ·exact .inl h
 ·exact .inr ⟨b,A,v.keep hk (hn b v.at),hc⟩
theorem Tl.n{H:Heap}{s:Sl}{l:List UInt8}(h:Tl H s l):s.n=l.length:=by
 rcases h with ⟨rfl,rfl⟩|⟨b,A,v,hc⟩
 ·rfl
 ·have:=v.hn;rw[bc_len]at this;omega
theorem Tl.lt{H:Heap}{s:Sl}{l:List UInt8}(h:Tl H s l){k:Nat}(hk:s.at k):k<H.next:=by
 rcases h with ⟨rfl,rfl⟩|⟨b,A,v,hc⟩
 ·exact absurd hk Sl.at_nil
 ·obtain⟨a,h1,rfl⟩:=hk;rw[v.sa]at h1;cases h1;exact v.lt
theorem Tl.src{H:Heap}{s:Sl}{l:List UInt8}(h:Tl H s l):srcCells H 1 s.n s.v=some (bc l):=by
 rcases h with ⟨rfl,rfl⟩|⟨b,A,v,hc⟩
 ·rfl
 ·have:=v.hn;rw[v.src (Nat.le_refl _),List.take_of_length_le (by omega)]
theorem Vw.str{H:Heap}{s:Sl}{b:Nat}{A Z:List Value}{l:List UInt8}{e:TypeId}(v:Vw H s b A (bc l) Z e 1):readD .bytesStr [s.v] H=some (.string (S l)):=by
 obtain⟨a1,a2,a3,a4,o,st,a5⟩:=v;rw[bc_len]at a2;simp only[readD,a1];by_cases h0:s.n=0
 ·have:l=[]:=List.eq_nil_of_length_eq_zero (by omega);subst this;rw[h0];simp
 ·rw[if_neg h0,ldN_s a5 (by simp[bc_len];omega),List.drop_left' rfl,List.take_append_of_le_length (by rw[bc_len];omega),List.take_of_length_le (by rw[bc_len];omega)];simp only[bytesOf_bc]
theorem Tl.str{H:Heap}{s:Sl}{l:List UInt8}(h:Tl H s l):readD .bytesStr [s.v] H=some (.string (S l)):=by
 rcases h with ⟨rfl,rfl⟩|⟨b,A,v,hc⟩
 ·rfl
 ·exact Vw.str v
theorem bc_drop(l:List UInt8)(k:Nat):(bc l).drop k=bc (l.drop k):=by simp[bc]
theorem Tl.back{H:Heap}{s:Sl}{l:List UInt8}(h:Tl H s l){k:Nat}(hk:k≤l.length):∃x:Sl,readD (.subSl t_5 1 true false false) [s.v,.int .i64 (k:Int)] H=some x.v∧Tl H x (l.drop k)∧∀j,x.at j→s.at j:=by
 have hn:=h.n;rcases h with ⟨rfl,rfl⟩|⟨b,A,v,hc⟩
 ·have:k=0:=by simpa using hk
  subst this;exact⟨Sl.nil,rfl,.inl ⟨rfl,rfl⟩,fun _ e=>e⟩
 ·have w:=v.sub (l:=k) (h:=s.n) (by omega) (Nat.le_refl _);have e1:List.drop (s.n*1) (bc l)=[]:=List.drop_eq_nil_of_le (by rw[bc_len];omega);have e2:((bc l).drop (k*1)).take ((s.n-k)*1)=bc (l.drop k):=by rw[Nat.mul_one,Nat.mul_one,bc_drop,List.take_of_length_le (by rw[bc_len,List.length_drop];omega)]
  rw[e1,e2]at w;refine⟨subS s k s.n 1,v.s_l (by omega),.inr ⟨b,_,w,by show s.c-k=s.n-k;omega⟩,fun j e=>?_⟩;obtain⟨a,h1,rfl⟩:=e;have h2:=w.sa;rw[h1]at h2;cases h2;exact⟨_,v.sa,rfl⟩
theorem Tl.new(H:Heap):Tl (H.new (.cells [] t_5 false 0 false)) ⟨some ⟨H.next,0,none⟩,0,0⟩ []:=.inr ⟨H.next,[],⟨rfl,rfl,Nat.le_refl _,by simp,false,false,by simp[bc]⟩,rfl⟩
theorem Tl.app{H:Heap}{s:Sl}{l new:List UInt8}{n:Nat}{x:Value}(h:Tl H s l)(h1:srcN false x=some n)(h2:srcCells H 1 n x=some (bc new))(h3:new.length=n)(h4:l.length+n≤70368744177664):∃s' H',(∀K,appendK t_5 1 1 false s.v x H K=K s'.v H')∧Tl H' s' (l++new)∧Keep s.at H H'∧(∀k,s'.at k→s.at k∨H.next≤k):=by
 have hn:=h.n;by_cases h0:n=0
 ·subst h0;have:new=[]:=List.eq_nil_of_length_eq_zero (by omega);subst this;refine⟨s,H,fun K=>?_,by rw[List.append_nil];exact h,Keep.refl _,fun k hk=>.inl hk⟩;have hc:s.n≤s.c:=by
   rcases h with ⟨rfl,rfl⟩|⟨b,A,v,hc⟩
   ·exact Nat.le_refl _
   ·exact v.hc
  simp only[appendK,Sl.v,asSl,h1,h2,optK];rw[if_pos (by omega)];rfl
 ·rcases h with ⟨rfl,rfl⟩|⟨b,A,v,hc⟩
  ·refine⟨⟨some ⟨H.next,0,none⟩,n,n⟩,H.new (.cells (bc new) t_5 true 0 false),fun K=>?_,.inr ⟨H.next,[],⟨rfl,by rw[List.nil_append,bc_len,h3,Nat.mul_one],Nat.le_refl _,by simp,true,false,by simp⟩,rfl⟩,Keep.new _ _,?_⟩
   ·simp only[appendK,Sl.v,asSl,h1,h2,optK];rw[if_neg (by omega),if_pos ⟨by simpa using h4,by omega,by omega⟩];simp
   ·rintro k ⟨a,h,rfl⟩;cases h;exact .inr (Nat.le_refl _)
  ·obtain⟨a1,a2,a3,a4,o,st,a5⟩:=v;rw[List.append_nil]at a5;have hcl:(A++bc l).length=A.length+s.n:=by rw[List.length_append,bc_len];omega
   have htake:((A++bc l).drop A.length).take (s.n*1)=bc l:=by rw[List.drop_left' rfl,List.take_of_length_le (by rw[bc_len];omega)]
   have fin:∀H1:Heap,H1.next=H.next→(∀k,k<H.next→k≠b→H1.get k=H.get k)→∀st2,Tl (H1.new (.cells (bc l++bc new) t_5 true 0 st2)) ⟨some ⟨H1.next,0,none⟩,s.n+n,s.n+n⟩ (l++new)∧Keep s.at H (H1.new (.cells (bc l++bc new) t_5 true 0 st2)):=fun H1 e1 e2 st2=>
    ⟨.inr ⟨H1.next,[],⟨rfl,by rw[bc_len,List.length_append];simp only[];omega,Nat.le_refl _,by simp,true,st2,by simp[bc_append]⟩,rfl⟩,by simp[e1],fun k hk hs=>by rw[Heap.get_new_ne _ _ (by omega)];exact e2 k hk fun h=>hs ⟨_,a1,h.symm⟩⟩
   by_cases hz:s.n=0∧False
   ·exact hz.2.elim
   ·by_cases ho:o=true∧¬(exact 1 (A++bc l).length A.length s.c o=true)
    ·obtain⟨k1,k2⟩:=fin (H.kill b) rfl (fun k _ hb=>Heap.get_kill_ne _ hb) st;refine⟨⟨some ⟨(H.kill b).next,0,none⟩,s.n+n,s.n+n⟩,_,fun K=>?_,k1,k2,?_⟩
     ·simp only[appendK,asSl,Sl.v,h1,h2,optK,a1,a5];rw[if_neg (by omega),if_pos (by omega),if_pos (by rw[hcl];omega),if_neg fun e=>ho.2 e.1,if_pos ⟨trivial,Nat.zero_le _⟩,htake,Nat.zero_sub];rfl
     ·rintro k ⟨a,h,rfl⟩;cases h;exact .inr (by simp)
    ·obtain⟨k1,k2⟩:=fin H rfl (fun _ _ _=>rfl) false;have hex:exact 1 (A++bc l).length A.length s.c o=true:=by
      by_cases ho2:o=true
      ·exact Classical.byContradiction fun e=>ho ⟨ho2,e⟩
      ·have:o=false:=by simpa using ho2
       subst this;rfl
     refine⟨⟨some ⟨H.next,0,none⟩,s.n+n,s.n+n⟩,_,fun K=>?_,k1,k2,?_⟩
     ·simp only[appendK,asSl,Sl.v,h1,h2,optK,a1,a5];rw[if_neg (by omega),if_pos (by omega),if_pos (by rw[hcl];omega),if_pos ⟨hex,.inr trivial⟩,htake]
     ·rintro k ⟨a,h,rfl⟩;cases h;exact .inr (Nat.le_refl _)
end Go.Proofs.YtjjchnjcmnkpdaaDoor.dec
namespace Go.Proofs.YtjjchnjcmnkpdaaDoor.dec
open Go Go.Cm
attribute [local congr] optK_congr asI_congr asN_congr asB_congr asS_congr asP_congr asA_congr asSL_congr callK_congr castT_congr chk_congr
def WS(H:Heap)(b n cap:Nat)(cs:List Value):Prop:=b<H.next∧n=cs.length∧∃Z op st,H.get b=some (.cells (cs++Z) t_56 op 0 st)∧cap=cs.length+Z.length
theorem WS.keep{S:Nat→Prop}{H H':Heap}{b n cap:Nat}{cs:List Value}(h:WS H b n cap cs)(hk:Keep S H H')(hs:¬S b):WS H' b n cap cs:=by obtain⟨h1,h2,Z,op,st,h3,h4⟩:=h;exact⟨Nat.lt_of_lt_of_le h1 hk.1,h2,Z,op,st,(hk.2 b h1 hs).trans h3,h4⟩
def stL(l:List W):List Value:=l.map fun w=>.string (S w)
theorem st_len(l:List W):(stL l).length=l.length:=by simp[stL]
def BL(H:Heap)(x:Sl)(l:List W):Prop:=(x=Sl.nil∧l=[])∨∃b Z,Vw H x b [] (stL l) Z t_9 1
theorem BL.keep{S:Nat→Prop}{H H':Heap}{x:Sl}{l:List W}(h:BL H x l)(hk:Keep S H H')(hn:∀k,x.at k→¬S k):BL H' x l:=by
 rcases h with h|⟨b,Z,v⟩
 ·exact .inl h
 ·exact .inr ⟨b,Z,v.keep hk (hn b v.at)⟩
theorem BL.n{H:Heap}{x:Sl}{l:List W}(h:BL H x l):x.n=l.length:=by
 rcases h with ⟨rfl,rfl⟩|⟨b,Z,v⟩
 ·rfl
 ·have:=v.hn;rw[st_len]at this;omega
theorem BL.lt{H:Heap}{x:Sl}{l:List W}(h:BL H x l){k:Nat}(hk:x.at k):k<H.next:=by
 rcases h with ⟨rfl,rfl⟩|⟨b,Z,v⟩
 ·exact absurd hk Sl.at_nil
 ·obtain⟨a,h1,rfl⟩:=hk;rw[v.sa]at h1;cases h1;exact v.lt
theorem BL.src{H:Heap}{x:Sl}{l:List W}(h:BL H x l):srcCells H 1 x.n x.v=some (stL l):=by
 rcases h with ⟨rfl,rfl⟩|⟨b,Z,v⟩
 ·rfl
 ·have:=v.hn;rw[v.src (Nat.le_refl _),List.take_of_length_le (by omega)]
theorem BL.of{H:Heap}{x:Sl}{l:List W}(h:Whole H x (stL l) t_9 1):BL H x l:=by
 by_cases hx:x.a=none
 ·rcases h with ⟨rfl,h2⟩|⟨b,n,rfl,_,_⟩
  ·refine .inl ⟨rfl,?_⟩;have:=congrArg List.length h2;rw[st_len]at this;exact List.eq_nil_of_length_eq_zero (by simpa using this)
  ·cases hx
 ·obtain⟨b,v,_⟩:=Vw.of h hx;exact .inr ⟨b,[],v⟩
theorem BL.ld{H:Heap}{x:Sl}{l:List W}(h:BL H x l){i:Nat}{w:W}(hi:l[i]?=some w):∃b,x.a=some ⟨b,0,none⟩∧Heap.ld1 H ⟨b,i,none⟩=some (.string (S w)):=by
 rcases h with ⟨rfl,rfl⟩|⟨b,Z,v⟩
 ·simp at hi
 ·refine⟨b,v.sa,?_⟩;have:=v.ld (i:=i) (x:=.string (S w)) (by simp[stL,hi]);rw[show([]:List Value).length+i=i by simp]at this;exact this
theorem lookV_t(v:Value):lookV v true true=.tuple ⟨[v,.bool true]⟩:=rfl
theorem lookV_f(v:Value):lookV v true false=v:=rfl
theorem asM_s{r:Option Nat}{K:Option Nat→Res}:asM (.map r) K=K r:=rfl
theorem ap_1(b o:Nat):ap ⟨b,o,none⟩ 1=⟨b,o+1,none⟩:=rfl
theorem ap_0(b o:Nat):ap ⟨b,o,none⟩ 0=⟨b,o,none⟩:=rfl
theorem map_erase{α β:Type}(f:α→β):∀(l:List α) (j:Nat),(l.eraseIdx j).map f=(l.map f).eraseIdx j
 |[],_=>rfl
 |_::_,0=>rfl
 |x::l,j+1=>by simp[map_erase f l j]
theorem sEq_S(a b:W):sEq (S a) (S b)=decide (a=b):=by
 by_cases h:a=b
 ·subst h;simp[sEq]
 ·rw[decide_eq_false h];show(a==b)=false;simpa using h
theorem find_name{n:W}:∀{es:List (Value×Value×Nat)} {ns:List W},es.map (·.1)=ns.map (fun n=>Value.string (S n))→
  (n∉ns∧∀i,mapFind .str (.string (S n)) es i=some none)∨(∃j e,ns[j]?=some n∧es[j]?=some e∧∀i,mapFind .str (.string (S n)) es i=some (some (i+j,e.2)))
 |[],ns,h=>by
  have:ns=[]:=by simpa using h.symm
  subst this;exact .inl ⟨by simp,fun _=>rfl⟩
 |e::es,[],h=>by simp at h
 |e::es,m::ns,h=>by
  simp only[List.map_cons,List.cons.injEq]at h;obtain⟨h1,h2⟩:=h;have hq:eqC .str (.string (S n)) e.1=some (decide (n=m)):=by rw[h1,←sEq_S];rfl
  by_cases hnm:n=m
  ·subst hnm;refine .inr ⟨0,e,rfl,rfl,fun i=>?_⟩;simp only[mapFind,hq,decide_true];rfl
  ·have hf:∀i,mapFind .str (.string (S n)) (e::es) i=mapFind .str (.string (S n)) es (i+1):=fun i=>by
    simp only[mapFind,hq,decide_eq_false hnm]
   rcases find_name (n:=n) h2 with ⟨a,b⟩|⟨j,e',a,b,c⟩
   ·exact .inl ⟨by simp[hnm,a],fun i=>by rw[hf,b]⟩
   ·exact .inr ⟨j+1,e',by simpa using a,by simpa using b,fun i=>by rw[hf,c,show i+1+j=i+(j+1)by omega]⟩
theorem Gr.step{H H':Heap}{A:GA}{q:GP}{D':GD}{g':G}(h:Gr H A q)(r:Rep H' D' g')(w:WF g')(s:Stp H A.D H' D')(t:3<H.next):Gr H' ⟨D',A.dp,A.s,A.h⟩ ⟨g',q.c,q.w⟩∧GStp H A H' ⟨D',A.dp,A.s,A.h⟩:=by
 have lt:∀k,A.foot k→k<H.next:=fun k e=>h.lt e
 have hs1:∀k,A.s.at k→¬A.D.foot k:=h.f3;have hh1:∀k,A.h.at k→¬A.D.foot k:=h.f4;have ft:∀k,D'.foot k→A.D.foot k∨H.next≤k:=s.ft
 have pd2:PD H' A.D.pp A.dp A.s A.h q.c q.w:=h.pd.keep s.kp h.f1 h.f2 hs1 hh1;have foot2:∀k,(⟨D',A.dp,A.s,A.h⟩:GA).foot k→A.foot k∨H.next≤k:=fun k e=>by
  rcases e with e|e|e|e|e
  ·exact(ft k e).imp .inl id
  ·have e':k=D'.pp:=e;rw[s.pp]at e';exact .inl (.inr (.inl e'))
  ·exact .inl (.inr (.inr (.inl e)))
  ·exact .inl (.inr (.inr (.inr (.inl e))))
  ·exact .inl (.inr (.inr (.inr (.inr e))))
 refine⟨⟨r,w,by rw[show(⟨D',A.dp,A.s,A.h⟩:GA).D.pp=A.D.pp from s.pp];exact pd2,fun k e=>(foot2 k e).elim (h.lo k) (fun e=>by omega),?_,?_,?_,?_⟩,⟨s.p,s.kp.mono fun k _ e=>.inl e,foot2⟩⟩
 ·show¬D'.foot D'.pp;rw[s.pp];exact fun e=>(ft _ e).elim h.f1 (fun e=>by have:=lt A.D.pp (.inr (.inl rfl));omega)
 ·show¬D'.foot A.dp;exact fun e=>(ft _ e).elim h.f2 (fun e=>by have:=lt A.dp (.inr (.inr (.inl rfl)));omega)
 ·exact fun k e e'=>(ft k e').elim (hs1 k e) (fun e'=>by have:=lt k (.inr (.inr (.inr (.inl e))));omega)
 ·exact fun k e e'=>(ft k e').elim (hh1 k e) (fun e'=>by have:=lt k (.inr (.inr (.inr (.inr e))));omega)
def keyI(k:Int):Value:=.int .i64 k
theorem eqC_I(a b:Int):eqC (.int .i64) (.int .i64 a) (.int .i64 b)=some (decide (a=b)):=by simp[eqC]
theorem eqC_J(a b:Int):eqC (.int .i64) (keyI a) (keyI b)=some (decide (a=b)):=eqC_I a b
theorem find_key{n:Int}:∀{es:List (Value×Value×Nat)} {ns:List Int},es.map (·.1)=ns.map keyI→
  (n∉ns∧∀i,mapFind (.int .i64) (keyI n) es i=some none)∨(∃j e,ns[j]?=some n∧es[j]?=some e∧∀i,mapFind (.int .i64) (keyI n) es i=some (some (i+j,e.2)))
 |[],ns,h=>by
  have:ns=[]:=by simpa using h.symm
  subst this;exact .inl ⟨by simp,fun _=>rfl⟩
 |e::es,[],h=>by simp at h
 |e::es,m::ns,h=>by
  simp only[List.map_cons,List.cons.injEq]at h;obtain⟨h1,h2⟩:=h;have hq:eqC (.int .i64) (keyI n) e.1=some (decide (n=m)):=by rw[h1];exact eqC_J n m
  by_cases hnm:n=m
  ·subst hnm;refine .inr ⟨0,e,rfl,rfl,fun i=>?_⟩;simp only[mapFind,hq,decide_true];rfl
  ·have hf:∀i,mapFind (.int .i64) (keyI n) (e::es) i=mapFind (.int .i64) (keyI n) es (i+1):=fun i=>by
    simp only[mapFind,hq,decide_eq_false hnm]
   rcases find_key (n:=n) h2 with ⟨a,b⟩|⟨j,e',a,b,c⟩
   ·exact .inl ⟨by simp[hnm,a],fun i=>by rw[hf,b]⟩
   ·exact .inr ⟨j+1,e',by simpa using a,by simpa using b,fun i=>by rw[hf,c,show i+1+j=i+(j+1)by omega]⟩
structure Rc where
 row:Int
 col:Int
 rows:Int
 cols:Int
def Rc.l(r:Rc):List Value:=[.int .i64 r.row,.int .i64 r.col,.int .i64 r.rows,.int .i64 r.cols]
def Rc.ok(r:Rc):Prop:=0≤r.row∧0≤r.col∧0≤r.rows∧0≤r.cols∧r.row+r.rows≤100000∧r.col+r.cols≤100000
def wideP(ac:Bool)(r:Rc):Int:=if ac=true then r.cols else r.rows
def heldP(pt d:Int):Int:=if d-2<(if pt<1 then 1 else pt)then d-2 else(if pt<1 then 1 else pt)
def sliceP(ac:Bool)(r:Rc)(from' many:Int):Rc:=if ac=true then {r with col:=r.col+from',cols:=many}else {r with row:=r.row+from',rows:=many}
def partsP(ac:Bool)(pt:Int)(r:Rc):Rc×Rc:=if wideP ac r<3 then(r,sliceP ac r (wideP ac r) 0)else(sliceP ac r 0 (heldP pt (wideP ac r)),sliceP ac r (heldP pt (wideP ac r)+1) (wideP ac r-heldP pt (wideP ac r)-1))
def ndC(p:Int)(a b:Option Addr)(ac:Bool)(pt:Int):List Value:=[.int .i64 p,.pointer a,.pointer b,.bool ac,.int .i64 pt]
theorem lyw{n:Int}(h: -9223372036854775808≤n∧n≤9223372036854775807):IntKind.wrap .i64 n=n:=by unfold IntKind.wrap;simp only[IntKind.signed,IntKind.bits];simp;split<;>omega
theorem ly_box{t:TypeId}{x:List Value}{H:Heap}{K:Value→Heap→Res}(h:x.all one=true):effK (.box t) [.agg ⟨x⟩] H K=K (P0 H.next) (H.new (.cells x t false 0 false)):=by simp only[effK];rw[show cellsL (.agg ⟨x⟩)=x from rfl,if_pos h]
theorem ly_rd4{H:Heap}{b:Nat}{x:List Value}{e:TypeId}{o st:Bool}{fz:Nat}(h:H.get b=some (.cells x e o fz st))(hx:x.length=4):readD (.load 4 true) [P0 b] H=some (.agg ⟨x⟩):=by simp only[readD,if_true];rw[ldN_s h (by omega)];simp only[List.drop_zero,List.take_of_length_le (Nat.le_of_eq hx)]
theorem ly_st4{H:Heap}{b:Nat}{l c:List Value}{e:TypeId}{K:Value→Heap→Res}(h:H.get b=some (.cells l e false 0 false))(hl:l.length=4)(hc:c.length=4)(h1:c.all one=true):effK (.store 4) [P0 b,.agg ⟨c⟩] H K=K (.tuple #[]) (H.put b (.cells c e false 0 false)):=by
 have:Heap.stN H ⟨b,0,none⟩ c=some (H.put b (.cells c e false 0 false)):=by simp only[Heap.stN,h];rw[if_pos ⟨by omega,Nat.le_refl _⟩];simp only[splice,List.take_zero,List.nil_append,Nat.zero_add];rw[List.drop_eq_nil_of_le (by omega),List.append_nil]
 simp only[effK];rw[if_neg (by omega),show cellsL (.agg ⟨c⟩)=c from rfl,if_pos ⟨hc,h1,by omega⟩,this];rfl
theorem Rc.len(r:Rc):r.l.length=4:=rfl
theorem Rc.one(r:Rc):r.l.all one=true:=rfl
theorem lyWide_s(d:Nat){H:Heap}{x:Nat}{p:Int}{a b:Option Addr}{ac:Bool}{pt:Int}(hx:H.get x=some (.cells (ndC p a b ac pt) t_105 false 0 false))(hl:x<H.next)(r:Rc):
  ∃H',X (d+1) n_36 [P0 x,.agg ⟨r.l⟩] H=some (.int .i64 (wideP ac r),H')∧Keep0 H H':=by
 rw[layout_node_wide_eq,ly_box r.one];have k1:Keep0 H (H.new (.cells r.l t_83 false 0 false)):=Keep.new _ _;have g1:(H.new (.cells r.l t_83 false 0 false)).get H.next=some (.cells r.l t_83 false 0 false):=by simp
 have gx:=k1.get hl hx;generalize H.new (.cells r.l t_83 false 0 false)=H1 at*;refine⟨H1,?_,k1⟩;rw[(ld1_s gx).trans (show _=some (Value.bool ac)from rfl)];simp only[optK_s,asB_s,P0,asP_s];unfold wideP;cases ac with
 |true=>rw[if_pos rfl,if_pos rfl,show ap ⟨H.next,0,none⟩ 3=⟨H.next,3,none⟩from rfl,(ld1_s g1).trans (show _=some (Value.int .i64 r.cols)from rfl)];simp only[optK_s,asI_s]
 |false=>rw[if_neg (by decide),if_neg (by decide),show ap ⟨H.next,0,none⟩ 2=⟨H.next,2,none⟩from rfl,(ld1_s g1).trans (show _=some (Value.int .i64 r.rows)from rfl)];simp only[optK_s,asI_s]
theorem lyHeld_s(d:Nat){H:Heap}{x:Nat}{p:Int}{a b:Option Addr}{ac:Bool}{pt:Int}(hx:H.get x=some (.cells (ndC p a b ac pt) t_105 false 0 false)){n:Int}(hn: -1000000≤n∧n≤1000000):X (d+1) n_47 [P0 x,.int .i64 n] H=some (.int .i64 (heldP pt n),H):=by
 rw[layout_node_held_eq,(ld1_s hx).trans (show _=some (Value.int .i64 pt)from rfl)];simp only[optK_s,asI_s];rw[lyw (show-9223372036854775808≤n-2∧n-2≤9223372036854775807 by omega)];rfl
theorem ly_ret4{H:Heap}{b t:Nat}{r:Rc}(h:H.get b=some (.cells r.l t_83 false 0 false)):retK [.cell t 4 true] [(t,P0 b)] H=some (.agg ⟨r.l⟩,H):=by
 have g0:Fr.get [(t,P0 b)] t=some (P0 b):=by simp[Fr.get]
 simp only[retK,resL,g0,ly_rd4 h r.len]
theorem lySlice_s(d:Nat){H:Heap}{x:Nat}{p:Int}{a b:Option Addr}{ac:Bool}{pt:Int}(hx:H.get x=some (.cells (ndC p a b ac pt) t_105 false 0 false))(hl:x<H.next)(r:Rc)(f m:Int)(h1:IntKind.wrap .i64 (r.row+f)=r.row+f)(h2:IntKind.wrap .i64 (r.col+f)=r.col+f):
  ∃H',X (d+1) n_46 [P0 x,.agg ⟨r.l⟩,.int .i64 f,.int .i64 m] H=some (.agg ⟨(sliceP ac r f m).l⟩,H')∧Keep0 H H':=by
 rw[layout_node_slice_eq,ly_box r.one];have k1:Keep0 H (H.new (.cells r.l t_83 false 0 false)):=Keep.new _ _;have g1:(H.new (.cells r.l t_83 false 0 false)).get H.next=some (.cells r.l t_83 false 0 false):=by simp
 have n1:(H.new (.cells r.l t_83 false 0 false)).next=H.next+1:=rfl
 have gx:=k1.get hl hx;generalize H.new (.cells r.l t_83 false 0 false)=H1 at*;simp only[newK_s];have k2:Keep0 H1 (H1.new (.cells [.int .i64 0,.int .i64 0,.int .i64 0,.int .i64 0] t_83 false 0 false)):=Keep.new _ _;have g2:(H1.new (.cells [.int .i64 0,.int .i64 0,.int .i64 0,.int .i64 0] t_83 false 0 false)).get H1.next=some (.cells [.int .i64 0,.int .i64 0,.int .i64 0,.int .i64 0] t_83 false 0 false):=by simp
 have gx2:=k2.get (by omega) gx;have g12:=k2.get (by omega) g1;generalize H1.new (.cells [.int .i64 0,.int .i64 0,.int .i64 0,.int .i64 0] t_83 false 0 false)=H2 at*;rw[(ld1_s gx2).trans (show _=some (Value.bool ac)from rfl)];simp only[optK_s,asB_s,P0,asP_s];have k12:=k1.trans k2;have fin:∀(c1:List Value) (t:Nat),c1.length=4→∀r2:Rc,r2.l=c1.set (t+2) (.int .i64 m)→t+2<4→∃H',(optK (Heap.st1 (H2.put H.next (.cells c1 t_83 false 0 false)) ⟨H.next,t+2,none⟩ (.int .i64 m)) fun H13=>optK (readD (.load 4 true) [.pointer (some ⟨H.next,0,none⟩)] H13) fun v17=>asA v17 fun c18=>effK (.store 4) [P0 H1.next,.agg c18] H13 fun _ H20=>retK [.cell 8 4 true] [(8,P0 H1.next)] H20)=some (.agg ⟨r2.l⟩,H')∧Keep0 H H':=by
  intro c1 t hc1 r2 hr2 ht;have gp:(H2.put H.next (.cells c1 t_83 false 0 false)).get H.next=some (.cells c1 t_83 false 0 false):=by simp
  rw[st1_s gp (by omega) (Nat.zero_le _),←hr2];simp only[optK_s];have gq:((H2.put H.next (.cells c1 t_83 false 0 false)).put H.next (.cells r2.l t_83 false 0 false)).get H.next=some (.cells r2.l t_83 false 0 false):=by simp
  have gq2:((H2.put H.next (.cells c1 t_83 false 0 false)).put H.next (.cells r2.l t_83 false 0 false)).get H1.next=some (.cells [.int .i64 0,.int .i64 0,.int .i64 0,.int .i64 0] t_83 false 0 false):=by rw[Heap.get_put_ne _ _ (by omega),Heap.get_put_ne _ _ (by omega)];exact g2
  have kq:Keep (fun k=>k=H.next∨k=H1.next) H2 ((H2.put H.next (.cells c1 t_83 false 0 false)).put H.next (.cells r2.l t_83 false 0 false)):=Keep.trans (Keep.put _ _ _ (.inl rfl)) (Keep.put (S:=fun k=>k=H.next∨k=H1.next) _ _ _ (.inl rfl)) fun _ _ h=>h;generalize (H2.put H.next (.cells c1 t_83 false 0 false)).put H.next (.cells r2.l t_83 false 0 false)=H3 at*
  rw[show readD (.load 4 true) [.pointer (some ⟨H.next,0,none⟩)] H3=_ from ly_rd4 gq r2.len];simp only[optK_s,asA_s];rw[ly_st4 gq2 rfl r2.len r2.one];refine⟨_,ly_ret4 (by simp),k12.fresh (S:=fun k=>k=H.next∨k=H1.next) (Keep.trans kq (Keep.put (S:=fun k=>k=H.next∨k=H1.next) _ _ _ (.inr rfl)) fun _ _ h=>h) fun k e=>?_⟩;rcases e with e|e<;>omega
 unfold sliceP;cases ac with
 |true=>rw[if_pos rfl,if_pos rfl,show ap ⟨H.next,0,none⟩ 1=⟨H.next,1,none⟩from rfl,(ld1_s g12).trans (show _=some (Value.int .i64 r.col)from rfl)];simp only[optK_s,asI_s];rw[h2,st1_s g12 (show 1<r.l.length by rw[r.len];decide) (Nat.zero_le _)];simp only[optK_s];exact fin _ 1 rfl {r with col:=r.col+f,cols:=m} rfl (by decide)
 |false=>rw[if_neg (by decide),if_neg (by decide),show ap ⟨H.next,0,none⟩ 0=⟨H.next,0,none⟩from rfl,(ld1_s g12).trans (show _=some (Value.int .i64 r.row)from rfl)];simp only[optK_s,asI_s];rw[h1,st1_s g12 (show 0<r.l.length by rw[r.len];decide) (Nat.zero_le _)];simp only[optK_s];exact fin _ 0 rfl {r with row:=r.row+f,rows:=m} rfl (by decide)
theorem same_rc(r:Rc):same (.agg ⟨r.l⟩) (.agg ⟨r.l⟩)=true:=by simp[same,sameL,same0,Rc.l]
theorem ly_rds{Ha Hb:Heap}{rest:List Heap}{b:Nat}{r:Rc}{e e':TypeId}{o o' st st':Bool}{fz fz':Nat}(ha:Ha.get b=some (.cells r.l e o fz st))(hb:Hb.get b=some (.cells r.l e' o' fz' st')):rdsOk (Ha::Hb::rest) [⟨.load 4 true,[P0 b],.agg ⟨r.l⟩,0,1⟩]=true:=by
 simp only[rdsOk,Bool.and_true];rw[show 1+1-0=2 from rfl,rdOk_2,rdAt_s rfl (ly_rd4 ha r.len) (same_rc r),rdAt_s rfl (ly_rd4 hb r.len) (same_rc r)];rfl
theorem wideP_ok{ac:Bool}{r:Rc}(h:r.ok):0≤wideP ac r∧wideP ac r≤100000:=by
 obtain⟨a,b,c,d,e,f⟩:=h;unfold wideP;cases ac
 ·rw[if_neg (by decide)];omega
 ·rw[if_pos rfl];omega
theorem heldP_ok{pt d:Int}(h:3≤d):1≤heldP pt d∧heldP pt d≤d-2:=by unfold heldP;split<;>split at* <;>omega
theorem lyParts_s(d:Nat){H:Heap}{x:Nat}{p:Int}{a b:Option Addr}{ac:Bool}{pt:Int}(hx:H.get x=some (.cells (ndC p a b ac pt) t_105 false 0 false))(hl:x<H.next){r:Rc}(hr:r.ok):∃H',X (d+2) n_55 [P0 x,.agg ⟨r.l⟩] H=some (.tuple #[.agg ⟨(partsP ac pt r).1.l⟩,.agg ⟨(partsP ac pt r).2.l⟩],H')∧Keep0 H H':=by
 rw[layout_node_parts_eq,ly_box r.one];simp only[newK_s];have k1:Keep0 H (H.new (.cells r.l t_83 false 0 false)):=Keep.new _ _;have g1:(H.new (.cells r.l t_83 false 0 false)).get H.next=some (.cells r.l t_83 false 0 false):=by simp
 have n1:(H.new (.cells r.l t_83 false 0 false)).next=H.next+1:=rfl
 generalize H.new (.cells r.l t_83 false 0 false)=H1 at*;have k2:Keep0 H1 (H1.new (.cells [.int .i64 0,.int .i64 0,.int .i64 0,.int .i64 0] t_83 false 0 false)):=Keep.new _ _;have g2:(H1.new (.cells [.int .i64 0,.int .i64 0,.int .i64 0,.int .i64 0] t_83 false 0 false)).get H1.next=some (.cells [.int .i64 0,.int .i64 0,.int .i64 0,.int .i64 0] t_83 false 0 false):=by simp
 have n2:(H1.new (.cells [.int .i64 0,.int .i64 0,.int .i64 0,.int .i64 0] t_83 false 0 false)).next=H1.next+1:=rfl
 generalize H1.new (.cells [.int .i64 0,.int .i64 0,.int .i64 0,.int .i64 0] t_83 false 0 false)=H2 at*;have k3:Keep0 H2 (H2.new (.cells [.int .i64 0,.int .i64 0,.int .i64 0,.int .i64 0] t_83 false 0 false)):=Keep.new _ _;have g3:(H2.new (.cells [.int .i64 0,.int .i64 0,.int .i64 0,.int .i64 0] t_83 false 0 false)).get H2.next=some (.cells [.int .i64 0,.int .i64 0,.int .i64 0,.int .i64 0] t_83 false 0 false):=by simp
 have n3:(H2.new (.cells [.int .i64 0,.int .i64 0,.int .i64 0,.int .i64 0] t_83 false 0 false)).next=H2.next+1:=rfl
 generalize H2.new (.cells [.int .i64 0,.int .i64 0,.int .i64 0,.int .i64 0] t_83 false 0 false)=H3 at*;have gb:H3.get H.next=some (.cells r.l t_83 false 0 false):=k3.get (by omega) (k2.get (by omega) g1)
 have gp:H3.get H1.next=some (.cells [.int .i64 0,.int .i64 0,.int .i64 0,.int .i64 0] t_83 false 0 false):=k3.get (by omega) g2
 have gx:H3.get x=some (.cells (ndC p a b ac pt) t_105 false 0 false):=k3.get (by omega) (k2.get (by omega) (k1.get hl hx));have k03:Keep0 H H3:=(k1.trans k2).trans k3;rw[ly_rd4 gb r.len];simp only[optK_s,asA_s];obtain⟨H4,e4,k4⟩:=lyWide_s (d:=d) gx (by omega) r;rw[e4];simp only[callK_s,asI_s];have m4:=k4.1;obtain⟨w1,w2⟩:=wideP_ok (ac:=ac) hr;obtain⟨o1,o2,o3,o4,o5,o6⟩:=hr;have gb4:=k4.get (by omega) gb;have fin:∀(Ha Hb Hc:Heap) (rest:Heap→Heap→List Heap) (r1 r2:Rc),Keep0 H3 Ha→Keep0 H3 Hb→Keep0 H3 Hc→∃H',(effK (.store 4) [P0 H1.next,.agg ⟨r1.l⟩] Hc fun _ H20=>effK (.store 4) [P0 H2.next,.agg ⟨r2.l⟩] H20 fun _ H22=>chk (rdsOk (Ha::Hb::rest H20 H22) [⟨.load 4 true,[P0 H.next],.agg ⟨r.l⟩,0,1⟩]) (retK [.cell 4 4 true,.cell 5 4 true] [(4,P0 H1.next),(5,P0 H2.next)] H22))=some (.tuple #[.agg ⟨r1.l⟩,.agg ⟨r2.l⟩],H')∧Keep0 H H':=by
  intro Ha Hb Hc rest r1 r2 ka kb kc;have c1:=kc.get (by omega) gp;have c2:=kc.get (by omega) g3;rw[ly_st4 c1 rfl r1.len r1.one];have c2':(Hc.put H1.next (.cells r1.l t_83 false 0 false)).get H2.next=some (.cells [.int .i64 0,.int .i64 0,.int .i64 0,.int .i64 0] t_83 false 0 false):=by rw[Heap.get_put_ne _ _ (by omega)];exact c2
  rw[ly_st4 c2' rfl r2.len r2.one,ly_rds (ka.get (by omega) gb) (kb.get (by omega) gb),chk_s];have q1:((Hc.put H1.next (.cells r1.l t_83 false 0 false)).put H2.next (.cells r2.l t_83 false 0 false)).get H1.next=some (.cells r1.l t_83 false 0 false):=by rw[Heap.get_put_ne _ _ (by omega)];simp
  have q2:((Hc.put H1.next (.cells r1.l t_83 false 0 false)).put H2.next (.cells r2.l t_83 false 0 false)).get H2.next=some (.cells r2.l t_83 false 0 false):=by simp
  have kq:Keep (fun k=>k=H1.next∨k=H2.next) Hc ((Hc.put H1.next (.cells r1.l t_83 false 0 false)).put H2.next (.cells r2.l t_83 false 0 false)):=Keep.trans (Keep.put _ _ _ (.inl rfl)) (Keep.put (S:=fun k=>k=H1.next∨k=H2.next) _ _ _ (.inr rfl)) fun _ _ h=>h;generalize (Hc.put H1.next (.cells r1.l t_83 false 0 false)).put H2.next (.cells r2.l t_83 false 0 false)=H5 at*
  refine⟨H5,?_,(k03.trans kc).fresh (S:=fun k=>k=H1.next∨k=H2.next) kq fun k e=>by rcases e with e|e<;>omega⟩;have f1:Fr.get [(4,P0 H1.next),(5,P0 H2.next)] 4=some (P0 H1.next):=rfl;have f2:Fr.get [(4,P0 H1.next),(5,P0 H2.next)] 5=some (P0 H2.next):=rfl;simp only[retK,resL,f1,f2,ly_rd4 q1 r1.len,ly_rd4 q2 r2.len]
 unfold partsP;by_cases hw:wideP ac r<3
 ·rw[if_pos (decide_eq_true hw),if_pos hw];rw[ly_rd4 gb4 r.len];simp only[optK_s,asA_s];obtain⟨H5,e5,k5⟩:=lySlice_s (d:=d) (k4.get (by omega) gx) (by omega) r (wideP ac r) 0 (lyw (by omega)) (lyw (by omega));rw[e5];simp only[callK_s,asA_s];exact fin H4 H5 H5 (fun a b=>[a,b]) _ _ k4 (k4.trans k5) (k4.trans k5)
 ·obtain⟨v1,v2⟩:=heldP_ok (pt:=pt) (d:=wideP ac r) (by omega);rw[if_neg (by simp;omega),if_neg hw];rw[lyHeld_s (d:=d) (k4.get (by omega) gx) (n:=wideP ac r) (by omega)];simp only[callK_s,asI_s];rw[ly_rd4 gb4 r.len];simp only[optK_s,asA_s];generalize hk:heldP pt (wideP ac r)=kk at*;generalize hww:wideP ac r=ww at*;obtain⟨H5,e5,k5⟩:=lySlice_s (d:=d) (k4.get (by omega) gx) (by omega) r 0 kk (lyw (by omega)) (lyw (by omega));rw[e5];simp only[callK_s,asA_s];have m5:=k5.1;rw[ly_rd4 (k5.get (by omega) gb4) r.len];simp only[optK_s,asA_s];rw[lyw (n:=kk+1) (by omega),lyw (n:=ww-kk) (by omega),lyw (n:=ww-kk-1) (by omega)];obtain⟨H6,e6,k6⟩:=lySlice_s (d:=d) ((k4.trans k5).get (by omega) gx) (by omega) r (kk+1) (ww-kk-1) (lyw (by omega)) (lyw (by omega));rw[e6];simp only[callK_s,asA_s];exact fin H4 H5 H6 (fun a b=>[H6,a,b]) _ _ k4 (k4.trans k5) ((k4.trans k5).trans k6)
end Go.Proofs.YtjjchnjcmnkpdaaDoor.dec

/-
  mux: a new pane; a new mux; a fresh window.
-/
import Derived.Test.YtjjchnjcmnkpdaaGreatDoorLineC
import Derived.Test.YtjjchnjcmnkpdaaGreatDoorDecA
import Derived.Test.YtjjchnjcmnkpdaaGreatDoorDecB
import Derived.Test.YtjjchnjcmnkpdaaGreatDoorCmI
import Derived.Test.YtjjchnjcmnkpdaaGreatDoorLineB
namespace Go.Proofs.YtjjchnjcmnkpdaaGreatDoor.dec
open Go Go.Cm
attribute [local congr] optK_congr asI_congr asN_congr asB_congr asS_congr asP_congr asA_congr asSL_congr callK_congr castT_congr chk_congr
theorem make_s(d r c k:Nat)(hr:1≤r∧r≤60)(hc:1≤c∧c≤120)(hk:k≤1000000){H:Heap}(h4:3<H.next){m sm pm:Nat}{bf:Value}{es:List (Value×Value×Nat)}{clk:Nat}(hm:H.get m=some (.cells [.int .i64 (r:Int),.int .i64 (c:Int),.map (some sm),.map (some pm),.int .i64 (k:Int),bf] t_75 false 0 false))(hml:m<H.next)(hpm:H.get pm=some (.map es clk))(hpml:pm<H.next)(hne:m≠pm)(hf:mapFind (.int .i64) (.int .i64 (k:Int)) es 0=some none):∃p A H',X (d+8) n_30 [P0 m] H=some (.tuple #[],H')∧H'.get m=some (.cells [.int .i64 (r:Int),.int .i64 (c:Int),.map (some sm),.map (some pm),.int .i64 ((k+1:Nat):Int),bf] t_75 false 0 false)∧H'.get pm=some (.map (es++[(.int .i64 (k:Int),P0 p,clk)]) (clk+1))∧H'.get p=some (.cells [P0 A.D.p,Sl.nil.v] t_102 false 0 false)∧H.next≤p∧p<H'.next∧Gr H' A (GP.new r c)∧(∀k,A.foot k→H.next≤k∧k≠p)∧Keep (fun k=>k=m∨k=pm) H H':=by
 rw[mux_Mux_make_eq,(ld1_s hm).trans (show _=some (Value.int .i64 (r:Int))from rfl)];simp only[optK_s,asI_s];rw[(ld1_s hm).trans (show _=some (Value.int .i64 (c:Int))from rfl)];simp only[optK_s,asI_s];obtain⟨H1,A,e1,rep,k1,ff⟩:=New_s d h4 hr hc;rw[e1];simp only[callK_s,castT_s,castL_c,castL_n,cast0,P0,asP_s,asI_s,optK_s,List.getElem?_cons_zero,List.getElem?_cons_succ];have n1:=k1.1;have hm1:=k1.get hml hm;have l3:=(ld1_s (off:=3) hm1).trans (show _=some (Value.map (some pm))from rfl);have l4:=(ld1_s (off:=4) hm1).trans (show _=some (Value.int .i64 (k:Int))from rfl);rw[l3];simp only[optK_s,asM_s];rw[l4];simp only[optK_s,asI_s,newK_s];have k2:Keep0 H1 (H1.new (.cells [.pointer (some ⟨A.D.p,0,none⟩),.slice none 0 0] t_102 false 0 false)):=Keep.new _ _;have g2:(H1.new (.cells [.pointer (some ⟨A.D.p,0,none⟩),.slice none 0 0] t_102 false 0 false)).get H1.next=some (.cells [P0 A.D.p,Sl.nil.v] t_102 false 0 false):=by simp
 have n2:(H1.new (.cells [.pointer (some ⟨A.D.p,0,none⟩),.slice none 0 0] t_102 false 0 false)).next=H1.next+1:=by simp
 generalize H1.new (.cells [.pointer (some ⟨A.D.p,0,none⟩),.slice none 0 0] t_102 false 0 false)=H2 at*;have hm2:=k2.get (by omega) hm1;have hpm2:=k2.get (by omega) (k1.get hpml hpm);have eu:∀K,effK (.mapE (.upd (.int .i64))) [.map (some pm),.int .i64 (k:Int),.pointer (some ⟨H1.next,0,none⟩)] H2 K=K (.tuple #[]) (H2.put pm (.map (es++[(.int .i64 (k:Int),P0 H1.next,clk)]) (clk+1))):=fun K=>by simp only[effK,mapD,isKey,decide_true,if_true,Heap.ents,hpm2,hf,optK_s]
 rw[eu];have k3:Keep (fun k=>k=pm) H2 (H2.put pm (.map (es++[(.int .i64 (k:Int),P0 H1.next,clk)]) (clk+1))):=Keep.put _ _ _ rfl;have g3:(H2.put pm (.map (es++[(.int .i64 (k:Int),P0 H1.next,clk)]) (clk+1))).get pm=some (.map (es++[(.int .i64 (k:Int),P0 H1.next,clk)]) (clk+1)):=by simp
 generalize H2.put pm (.map (es++[(.int .i64 (k:Int),P0 H1.next,clk)]) (clk+1))=H3 at*;have n3:=k3.1;have hm3:=(k3.2 m (by omega) hne).trans hm2;have r3:∀(Hx:Heap),Hx.get m=some (.cells [.int .i64 (r:Int),.int .i64 (c:Int),.map (some sm),.map (some pm),.int .i64 (k:Int),bf] t_75 false 0 false)→readD (.load 1 false) [.pointer (some ⟨m,3,none⟩)] Hx=some (Value.map (some pm)):=fun Hx h=>rd1' ((ld1_s h).trans rfl);have r4:∀(Hx:Heap),Hx.get m=some (.cells [.int .i64 (r:Int),.int .i64 (c:Int),.map (some sm),.map (some pm),.int .i64 (k:Int),bf] t_75 false 0 false)→readD (.load 1 false) [.pointer (some ⟨m,4,none⟩)] Hx=some (Value.int .i64 (k:Int)):=fun Hx h=>rd1' ((ld1_s h).trans rfl);rw[show rdsOk _ _=true from by simp only[rdsOk,Bool.and_true];rw[show 1+1-0=2 from rfl,rdOk_2,rdOk_2,rdAt_s rfl (r4 _ hm1) (same_int _ _),rdAt_s rfl (r4 _ hm2) (same_int _ _),rdAt_s rfl (r3 _ hm1) (by simp[same,same0]),rdAt_s rfl (r3 _ hm2) (by simp[same,same0])];rfl];simp only[chk_s];rw[(ld1_s hm3).trans (show _=some (Value.int .i64 (k:Int))from rfl)];simp only[optK_s,asI_s];rw[wi (by omega),(st1_s (v:=.int .i64 ((k+1:Nat):Int)) hm3 (by show 4<6;omega) (by omega)).trans (show _=some (H3.put m (.cells [.int .i64 (r:Int),.int .i64 (c:Int),.map (some sm),.map (some pm),.int .i64 ((k+1:Nat):Int),bf] t_75 false 0 false))from rfl)];simp only[optK_s];have k4:Keep (fun k=>k=m) H3 (H3.put m (.cells [.int .i64 (r:Int),.int .i64 (c:Int),.map (some sm),.map (some pm),.int .i64 ((k+1:Nat):Int),bf] t_75 false 0 false)):=Keep.put _ _ _ rfl;have g4:(H3.put m (.cells [.int .i64 (r:Int),.int .i64 (c:Int),.map (some sm),.map (some pm),.int .i64 ((k+1:Nat):Int),bf] t_75 false 0 false)).get m=some (.cells [.int .i64 (r:Int),.int .i64 (c:Int),.map (some sm),.map (some pm),.int .i64 ((k+1:Nat):Int),bf] t_75 false 0 false):=by simp
 generalize H3.put m (.cells [.int .i64 (r:Int),.int .i64 (c:Int),.map (some sm),.map (some pm),.int .i64 ((k+1:Nat):Int),bf] t_75 false 0 false)=H4 at*;have n4:=k4.1;have kk:Keep (fun k=>k=m∨k=pm) H2 H4:=(k3.mono (T:=fun k=>k=m∨k=pm) fun _ _ e=>.inr e).trans k4 fun _ _ e=>.inl e;have rep2:=rep.keep k2 fun _ _ e=>e;refine⟨H1.next,A,H4,rfl,g4,(k4.2 pm (by omega) (Ne.symm hne)).trans g3,(kk.2 H1.next (by omega) (by omega)).trans g2,by omega,by omega,rep2.keep kk fun j e e'=>?_,fun j e=>⟨ff j e,?_⟩,((k1.trans k2).to (S:=fun k=>k=m∨k=pm)).trans kk fun _ _ e=>e⟩
 ·have:=ff j e;omega
 ·have:=rep.lt e;omega
theorem New5_s(d r c:Nat)(hr:1≤r∧r≤60)(hc:1≤c∧c≤120){H:Heap}(h4:3<H.next):∃m sm pm H',X (d+8) n_7 [.int .i64 (r:Int),.int .i64 (c:Int)] H=some (.tuple ⟨[P0 m,.int .i64 0]⟩,H')∧H'.get m=some (.cells [.int .i64 (r:Int),.int .i64 (c:Int),.map (some sm),.map (some pm),.int .i64 0,.slice none 0 0] t_75 false 0 false)∧H'.get sm=some (.map [] 0)∧H'.get pm=some (.map [] 0)∧H.next≤sm∧sm<pm∧pm<m∧m<H'.next∧Keep0 H H':=by
 rw[mux_New_eq];obtain⟨H1,A,e1,_,k1,_⟩:=New_s d h4 hr hc;rw[e1];simp only[callK_s,castT_s,castL_c,castL_n,cast0,P0,asP_s,asI_s,optK_s,List.getElem?_cons_zero,List.getElem?_cons_succ];rw[if_neg (by decide)];have emk:∀(Hx:Heap) (K:Value→Heap→Res),effK (.mapE .mk) [] Hx K=K (.map (some Hx.next)) (Hx.new (.map [] 0)):=fun _ _=>rfl;rw[emk];simp only[asM_s];have k2:Keep0 H1 (H1.new (.map [] 0)):=Keep.new _ _;have g2:(H1.new (.map [] 0)).get H1.next=some (.map [] 0):=by simp
 have n2:(H1.new (.map [] 0)).next=H1.next+1:=by simp
 generalize H1.new (.map [] 0)=H2 at*;rw[emk];simp only[asM_s,newK_s];have k3:Keep0 H2 (H2.new (.map [] 0)):=Keep.new _ _;have g3:(H2.new (.map [] 0)).get H2.next=some (.map [] 0):=by simp
 have n3:(H2.new (.map [] 0)).next=H2.next+1:=by simp
 generalize H2.new (.map [] 0)=H3 at*;have n1:=k1.1;have k4:Keep0 H3 (H3.new (.cells [.int .i64 (r:Int),.int .i64 (c:Int),.map (some H1.next),.map (some H2.next),.int .i64 0,.slice none 0 0] t_75 false 0 false)):=Keep.new _ _;exact⟨H3.next,H1.next,H2.next,_,rfl,by simp,k4.get (by omega) (k3.get (by omega) g2),k4.get (by omega) g3,by omega,by omega,by omega,by simp,((k1.trans k2).trans k3).trans k4⟩
theorem FitR.out{M:Md}{w:Wn}{P P':Int→Option Pn}{l:List (Int×Rc)}(h:FitR M w P P' l){k:Int}(hk:k∉l.map Prod.fst):P' k=P k:=by
 have:=h k;cases e:P k with
 |none=>rw[e]at this;exact this
 |some x=>rw[e]at this;simp only[lookup_none hk]at this;exact this
theorem FitR.inn{M:Md}{w:Wn}{P P':Int→Option Pn}{l:List (Int×Rc)}(h:FitR M w P P' l){k:Int}{x:Pn}{r:Rc}(hx:P k=some x)(hl:l.lookup k=some r):∃A',P' k=some {x with A:=A',q:=⟨fitG M w k r x.q.g,x.q.c,x.q.w⟩}:=by have:=h k;rw[hx]at this;simp only[hl]at this;exact this
theorem Wm.fresh{M:Md}(h:Wm M){b:Nat}(hb:M.W b=none){x:Pn}(hx:x.win=b){tb nd sb:Nat}(hn:M.next<100):Wm {M with next:=M.next+1,W:=updN M.W b (some ⟨tb,.leaf nd (M.next:Int),(M.next:Int),false,sb⟩),P:=upd M.P (M.next:Int) (some x)}:=by
 have hP:M.P (M.next:Int)=none:=by
  cases e:M.P (M.next:Int)with
  |none=>rfl
  |some y=>have:=(h.nx _ y e).2;omega
 refine⟨h.r,h.c,fun k y hy=>?_,h.nn,h.sb,h.sl,fun s hs=>?_,fun c v hc=>?_,h.nl⟩
 ·by_cases e:k=(M.next:Int)
  ·subst e;refine⟨by omega,?_⟩;show(M.next:Int)<((M.next+1:Nat):Int);omega
  ·obtain⟨a1,a2⟩:=h.nx k y ((upd_ne _ _ e).symm.trans hy);refine⟨a1,?_⟩;show k<((M.next+1:Nat):Int);omega
 ·obtain⟨a1,a2,a3,a4⟩:=h.wb s hs;refine⟨a1,a2,a3,fun c hc=>?_⟩;obtain⟨v,v1,v2⟩:=a4 c hc;have hne:c≠b:=fun e=>by rw[e,hb]at v1;cases v1
  exact⟨v,(updN_ne _ _ hne).trans v1,v2⟩
 ·by_cases e:c=b
  ·subst e;have hv:=(updN_same M.W c (some ⟨tb,.leaf nd (M.next:Int),(M.next:Int),false,sb⟩)).symm.trans hc;cases hv;refine⟨by simp[AT.panes],by simp[AT.panes],by simp[AT.panes],fun p hp=>?_,?_⟩
   ·simp only[AT.panes,List.mem_singleton]at hp;subst hp;exact⟨x,upd_same _ _ _,hx⟩
   ·exact⟨by omega,by show(M.next:Int)<100;omega⟩
  ·obtain⟨t1,t2,t3,t4,t5⟩:=h.tp c v ((updN_ne _ _ e).symm.trans hc);refine⟨t1,t2,t3,fun p hp=>?_,t5⟩;obtain⟨z,z1,z2⟩:=t4 p hp;have hne:p≠(M.next:Int):=fun e=>by rw[e,hP]at z1;cases z1
   exact⟨z,(upd_ne _ _ hne).trans z1,z2⟩
theorem MxOk.fresh{H H':Heap}{o:Ow}{M:Md}(h:MxOk H o M)(hn:M.next<100){nd tb b p:Nat}{A:GA}(sb:Nat)(gm:H'.get M.m=some (.cells [.int .i64 (M.rows:Int),.int .i64 (M.cols:Int),.map (some M.sm),.map (some M.pm),.int .i64 ((M.next+1:Nat):Int),M.bs.v] t_75 false 0 false))(gp:∃es clk,PMap es M.P∧H'.get M.pm=some (.map (es++[(keyI (M.next:Int),P0 p,clk)]) (clk+1)))(gb:H'.get b=some (.cells [P0 tb,.int .i64 (M.next:Int),.bool false] t_90 false 0 false))(gt:H'.get tb=some (.cells [P0 nd] t_164 false 0 false))(gn:H'.get nd=some (.cells (ndC (M.next:Int) none none false 0) t_159 false 0 false))(gpp:H'.get p=some (.cells [P0 A.D.p,Sl.nil.v] t_102 false 0 false))(gr:Gr H' A (GP.new M.rows M.cols))(od:H.next≤nd∧nd<tb∧tb<b∧b<p∧p<H'.next)(hA:∀k,A.foot k→b<k∧k≠p)(hk:Keep (fun k=>k=M.m∨k=M.pm) H H'):∃o',MxOk H' o' {M with next:=M.next+1,W:=updN M.W b (some ⟨tb,.leaf nd (M.next:Int),(M.next:Int),false,sb⟩),P:=upd M.P (M.next:Int) (some ⟨p,A,GP.new M.rows M.cols,Sl.nil,[],b⟩)}∧St H o H' o':=by
 have hk':KT o (fun t=>t=.m∨t=.pm) H H':=hk.mono fun j _ e=>by
  rcases e with e|e
  ·rw[e];exact .inl h.om
  ·rw[e];exact .inr h.op
 have hbW:M.W b=none:=by
  cases e:M.W b with
  |none=>rfl
  |some w=>have:=(h.hW b w e).lt;omega
 have hPn:M.P (M.next:Int)=none:=by
  cases e:M.P (M.next:Int)with
  |none=>rfl
  |some y=>have:=(h.wm.nx _ y e).2;omega
 let o1:Ow:=tagS (tagS (tagS (tagS (tagS o A.foot (.g (M.next:Int))) (· =p) (.p (M.next:Int))) (· =b) (.w b)) (· =tb) (.tb b)) (· =nd) (.nd b)
 have q1:o1 nd=.nd b:=tagS_in rfl;have q2:o1 tb=.tb b:=(tagS_out (by omega)).trans (tagS_in rfl);have q3:o1 b=.w b:=(tagS_out (by omega)).trans ((tagS_out (by omega)).trans (tagS_in rfl));have q4:o1 p=.p (M.next:Int):=(tagS_out (by omega)).trans ((tagS_out (by omega)).trans ((tagS_out (by omega)).trans (tagS_in rfl)));have q5:∀j,A.foot j→o1 j=.g (M.next:Int):=fun j e=>by have:=hA j e;exact(tagS_out (by omega)).trans ((tagS_out (by omega)).trans ((tagS_out (by omega)).trans ((tagS_out (by omega)).trans (tagS_in e))))
 have he:Ex H o o1:=fun j hj=>(tagS_out (by omega)).trans ((tagS_out (by omega)).trans ((tagS_out (by omega)).trans ((tagS_out (by omega)).trans (tagS_out fun e=>by have:=hA j e;omega))));have nz:¬(fun t=>t=Tg.m∨t=Tg.pm) Tg.z:=by simp
 refine⟨o1,⟨gm,h.klm hk',(he _ h.lm).trans h.om,h.kgs hk' (by simp),h.kls hk',(he _ h.ls).trans h.os,?_,h.klp hk',(he _ h.lp).trans h.op,h.kbf hk' (by simp),h.kob he,fun s hs=>(h.hS s hs).keep hk' he (by simp) (by simp),fun c v hv=>?_,fun j y hy=>?_,h.wm.fresh hbW rfl hn,h.ktab hk' nz,h.ko5 he,fun j hj=>?_⟩,St.of hk' he nz⟩
 ·obtain⟨es,clk,h1,h2⟩:=gp;exact⟨_,_,h2,h1.add hPn ⟨p,A,GP.new M.rows M.cols,Sl.nil,[],b⟩ clk⟩
 ·by_cases e:c=b
  ·subst e;have hv':=(updN_same M.W c (some ⟨tb,.leaf nd (M.next:Int),(M.next:Int),false,sb⟩)).symm.trans hv;cases hv';refine⟨gb,by omega,q3,gt,by show tb<_;omega,q2,⟨by omega,false,0,gn⟩,fun j hj=>?_,by simp[AT.dom]⟩;simp only[AT.dom,List.mem_singleton]at hj;rw[hj];exact q1
  ·have hv':M.W c=some v:=(updN_ne _ _ e).symm.trans hv;exact(h.hW c v hv').keep hk' he (by simp) (by simp) (by simp)
 ·by_cases e:j=(M.next:Int)
  ·subst e;have hy':=(upd_same M.P (M.next:Int) (some ⟨p,A,GP.new M.rows M.cols,Sl.nil,[],b⟩)).symm.trans hy;cases hy';exact⟨gpp,by show p<_;omega,q4,gr,q5,Tl.nil _,fun j e=>absurd e Sl.at_nil,by simp⟩
  ·have hy':M.P j=some y:=(upd_ne _ _ e).symm.trans hy;exact(h.hP j y hy').keep hk' he (by simp) (by simp) (by simp)
 ·have hn':=hk.1;refine(tagS_out (by omega)).trans ((tagS_out (by omega)).trans ((tagS_out (by omega)).trans ((tagS_out (by omega)).trans ((tagS_out fun e=>by have:=gr.lt e;omega).trans (h.oz j (by omega))))))
theorem fresh_x(d:Nat){H:Heap}{o:Ow}{M:Md}(h:MxOk H o M)(hn:M.next<100)(sb:Nat):∃b tb nd x H' o',X (d+42) n_27 [P0 M.m] H=some (P0 b,H')∧MxOk H' o' {M with next:=M.next+1,W:=updN M.W b (some ⟨tb,.leaf nd (M.next:Int),(M.next:Int),false,sb⟩),P:=upd M.P (M.next:Int) (some x)}∧x.q=GP.new M.rows M.cols∧x.qu=[]∧x.win=b∧St H o H' o'∧H.next≤b:=by
 obtain⟨r1,r2⟩:=h.wm.r;obtain⟨c1,c2⟩:=h.wm.c;rw[mux_Mux_fresh_eq,h.l4];simp only[optK_s,asI_s];rw[layout_New_eq];simp only[newK_s];have k1:Keep0 H (H.new (.cells [.int .i64 (M.next:Int),.pointer none,.pointer none,.bool false,.int .i64 0] t_159 false 0 false)):=Keep.new _ _;have g1:(H.new (.cells [.int .i64 (M.next:Int),.pointer none,.pointer none,.bool false,.int .i64 0] t_159 false 0 false)).get H.next=some (.cells (ndC (M.next:Int) none none false 0) t_159 false 0 false):=by simp[ndC]
 have n1:(H.new (.cells [.int .i64 (M.next:Int),.pointer none,.pointer none,.bool false,.int .i64 0] t_159 false 0 false)).next=H.next+1:=rfl
 generalize H.new (.cells [.int .i64 (M.next:Int),.pointer none,.pointer none,.bool false,.int .i64 0] t_159 false 0 false)=H1 at*;have k2:Keep0 H1 (H1.new (.cells [P0 H.next] t_164 false 0 false)):=Keep.new _ _;have g2:(H1.new (.cells [P0 H.next] t_164 false 0 false)).get H1.next=some (.cells [P0 H.next] t_164 false 0 false):=by simp
 have n2:(H1.new (.cells [P0 H.next] t_164 false 0 false)).next=H1.next+1:=rfl
 generalize H1.new (.cells [P0 H.next] t_164 false 0 false)=H2 at*;simp only[callK_s,P0,asP_s];have k02:=k1.trans k2;have h2:=h.new k02;rw[h2.l4];simp only[optK_s,asI_s];have k3:Keep0 H2 (H2.new (.cells [.pointer (some ⟨H1.next,0,none⟩),.int .i64 (M.next:Int),.bool false] t_90 false 0 false)):=Keep.new _ _;have g3:(H2.new (.cells [.pointer (some ⟨H1.next,0,none⟩),.int .i64 (M.next:Int),.bool false] t_90 false 0 false)).get H2.next=some (.cells [P0 H1.next,.int .i64 (M.next:Int),.bool false] t_90 false 0 false):=by simp
 have n3:(H2.new (.cells [.pointer (some ⟨H1.next,0,none⟩),.int .i64 (M.next:Int),.bool false] t_90 false 0 false)).next=H2.next+1:=rfl
 generalize H2.new (.cells [.pointer (some ⟨H1.next,0,none⟩),.int .i64 (M.next:Int),.bool false] t_90 false 0 false)=H3 at*;have k03:=k02.trans k3;have h3:=h.new k03;rw[show rdsOk _ _=true from by simp only[rdsOk,Bool.and_true];rw[show 1+1-0=2 from rfl,rdOk_2,rdAt_s rfl (show readD (.load 1 false) [.pointer (some ⟨M.m,4,none⟩)] H=_ from h.l4) (same_int _ _),rdAt_s rfl (show readD (.load 1 false) [.pointer (some ⟨M.m,4,none⟩)] H2=_ from h2.l4) (same_int _ _)];rfl];simp only[chk_s];obtain⟨es,clk,gpm,hpm⟩:=h3.gp;have hPn:M.P (M.next:Int)=none:=by
  cases e:M.P (M.next:Int)with
  |none=>rfl
  |some y=>have:=(h.wm.nx _ y e).2;omega
 have hmp:M.m≠M.pm:=fun e=>by have:=h.om;rw[e,h.op]at this;cases this
 obtain⟨p,A,H4,e4,a1,a2,a3,a4,a5,a6,a7,a8⟩:=make_s (d+33) M.rows M.cols M.next ⟨r1,r2⟩ (show 1≤M.cols∧M.cols≤120 by omega) (by omega) h3.tab.lt h3.gm h3.lm gpm h3.lp hmp (hpm.fnone hPn)
 rw[show X (d+41) n_30 [.pointer (some ⟨M.m,0,none⟩)] H3=_ from e4];simp only[callK_s];have n4:=a8.1;have hmlt:=h.lm;have hplt:=h.lp;have ne:∀j,H.next≤j→¬(j=M.m∨j=M.pm):=fun j hj e=>by omega
 obtain⟨o4,h4,s4⟩:=h.fresh (H':=H4) hn (nd:=H.next) (tb:=H1.next) (b:=H2.next) (p:=p) (A:=A) sb a1 ⟨es,clk,hpm,a2⟩ ((a8.2 H2.next (by omega) (ne _ (by omega))).trans g3) ((a8.2 H1.next (by omega) (ne _ (by omega))).trans (k3.get (by omega) g2)) ((a8.2 H.next (by omega) (ne _ (by omega))).trans (k3.get (by omega) (k2.get (by omega) g1))) a3 a6 (by omega) (fun k e=>by have:=a7 k e;omega) ((k03.to (S:=fun k=>k=M.m∨k=M.pm)).trans a8 fun _ _ e=>e);obtain⟨H5,o5,P5,e5,h5,s5,f5⟩:=fit_x d h4 (b:=H2.next) (updN_same _ _ _);rw[show X (d+41) n_31 [.pointer (some ⟨M.m,0,none⟩),.pointer (some ⟨H2.next,0,none⟩)] H4=_ from e5];simp only[callK_s];obtain⟨A',hA'⟩:∃A',P5=upd M.P (M.next:Int) (some ⟨p,A',GP.new M.rows M.cols,Sl.nil,[],H2.next⟩):=by
  have h0:=f5 (M.next:Int);simp only[upd_same,AT.panes,AT.places,List.zip_cons_cons,List.zip_nil_left,List.lookup,beq_self_eq_true]at h0;obtain⟨A',e⟩:=h0;have hg:(⟨fitG {M with next:=M.next+1,W:=updN M.W H2.next (some ⟨H1.next,.leaf H.next (M.next:Int),(M.next:Int),false,sb⟩),P:=upd M.P (M.next:Int) (some ⟨p,A,GP.new M.rows M.cols,Sl.nil,[],H2.next⟩)} ⟨H1.next,.leaf H.next (M.next:Int),(M.next:Int),false,sb⟩ (M.next:Int) (winRc M.rows M.cols) (GP.new M.rows M.cols).g,(GP.new M.rows M.cols).c,(GP.new M.rows M.cols).w⟩:GP)=GP.new M.rows M.cols:=by unfold fitG;rw[if_pos ?_];unfold tgt;rw[if_neg (by simp)];simp only[winRc,GP.new,G.fresh,Sc.init];omega
  rw[hg]at e;refine⟨A',funext fun j=>?_⟩;by_cases ej:j=(M.next:Int)
  ·rw[ej,upd_same];exact e
  ·rw[upd_ne _ _ ej];exact(f5.out (k:=j) (by simpa[AT.panes,AT.places]using ej)).trans (upd_ne _ _ ej)
 subst hA';exact⟨H2.next,H1.next,H.next,_,H5,o5,rfl,h5,rfl,rfl,rfl,s4.trans s5,by omega⟩
def okB(c:UInt8):Bool:=(decide (97≤c.toNat)&&decide (c.toNat≤122))||(decide (48≤c.toNat)&&decide (c.toNat≤57))||decide (c.toNat=45)
def rightB(l:W):Bool:=l.all okB&&(decide (l≠[])&&decide (l.length≤20))
theorem Right_loop(d:Nat){l:W}(hl:l.length≤1000000000000)(H:Heap):∀(r:W) (m i:Nat),r.length<m→l.drop i=r→i+r.length=l.length→j1b d m (S l) (i:Int) H=some (.bool (r.all okB&&(decide (l≠[])&&decide (l.length≤20))),H):=by
 intro r;induction r with
 |nil=>
  intro m i hm _ hi;obtain⟨m,rfl⟩:∃m',m=m'+1:=⟨m-1,by simp at hm;omega⟩;simp only[List.length_nil]at hi;rw[j1b_s,slenS,if_neg (show¬decide ((i:Int)<(l.length:Int))=true by rw[decide_eq_true_eq];omega)];have he:sEq (S l) (S [])=decide (l=[]):=sEq_S l [];rw[he];by_cases h0:l=[]
  ·rw[if_neg (by simp[h0])];simp[h0]
  ·rw[if_pos (by simp[h0])];have hc:decide ((l.length:Int)≤20)=decide (l.length≤20):=decide_eq_decide.2 (by omega);rw[hc];simp[h0]
 |cons c r ih=>
  intro m i hm hd hi;simp only[List.length_cons]at hm hi;obtain⟨m,rfl⟩:∃m',m=m'+1:=⟨m-1,by omega⟩;have hc:l[i]?=some c:=by have:=congrArg (fun x=>x[0]?) hd;simpa using this
  have hdr:l.drop (i+1)=r:=by rw[←List.drop_drop,hd];rfl
  rw[j1b_s,slenS,if_pos (show decide ((i:Int)<(l.length:Int))=true from decide_eq_true (by omega)),if_pos (show(0:Int)≤(i:Int)∧(i:Int)<(l.length:Int)by omega)];have hb:bt (S l) ((i:Int).toNat)=(c.toNat:Int):=by rw[Int.toNat_natCast];exact btS hc
  rw[hb];have key:(if decide ((c.toNat:Int)<97)=true then(if decide ((c.toNat:Int)<48)=true then j0 d m (S l) (i:Int) (!decide ((c.toNat:Int)=45)) H else(if decide ((57:Int)<(c.toNat:Int))=true then j0 d m (S l) (i:Int) (!decide ((c.toNat:Int)=45)) H else j0 d m (S l) (i:Int) false H))else(if decide ((122:Int)<(c.toNat:Int))=true then(if decide ((c.toNat:Int)<48)=true then j0 d m (S l) (i:Int) (!decide ((c.toNat:Int)=45)) H else(if decide ((57:Int)<(c.toNat:Int))=true then j0 d m (S l) (i:Int) (!decide ((c.toNat:Int)=45)) H else j0 d m (S l) (i:Int) false H))else j0 d m (S l) (i:Int) false H))=j0 d m (S l) (i:Int) (!okB c) H:=by
   have e45:decide ((c.toNat:Int)=45)=decide (c.toNat=45):=decide_eq_decide.2 (by omega);have bT:∀{a b:Bool},a=b→j0 d m (S l) (i:Int) a H=j0 d m (S l) (i:Int) b H:=fun e=>by rw[e]
   rw[e45];simp only[decide_eq_true_eq];split
   ·split
    ·refine bT ?_;unfold okB;rw[decide_eq_false (show¬97≤c.toNat by omega),decide_eq_false (show¬48≤c.toNat by omega)];simp
    ·split
     ·refine bT ?_;unfold okB;rw[decide_eq_false (show¬97≤c.toNat by omega),decide_eq_false (show¬c.toNat≤57 by omega)];simp
     ·refine bT ?_;unfold okB;rw[decide_eq_true (show 48≤c.toNat by omega),decide_eq_true (show c.toNat≤57 by omega)];simp
   ·split
    ·split
     ·omega
     ·split
      ·refine bT ?_;unfold okB;rw[decide_eq_false (show¬c.toNat≤122 by omega),decide_eq_false (show¬c.toNat≤57 by omega)];simp
      ·omega
    ·refine bT ?_;unfold okB;rw[decide_eq_true (show 97≤c.toNat by omega),decide_eq_true (show c.toNat≤122 by omega)];simp
  rw[key,j0_eq];by_cases ho:okB c=true
  ·rw[if_neg (by simp[ho]),wi (by omega),ih m (i+1) (by omega) hdr (by omega),List.all_cons,ho,Bool.true_and]
  ·have ho':okB c=false:=by simpa using ho
   rw[if_pos (by simp[ho']),List.all_cons,ho'];rfl
theorem Right_x(d:Nat)(l:W)(hl:l.length≤1000000000000)(H:Heap):X (d+1) n_26 [.string (S l)] H=some (.bool (rightB l),H):=by rw[mux_Right_eq];exact Right_loop d hl H l NN 0 (by rw[NN_eq];omega) rfl (by omega)
theorem New_x(d:Nat){H:Heap}(t:Tab H){r c:Nat}(hr:1≤r∧r≤60)(hc:1≤c∧c≤90):∃m sm pm H' o,X (d+8) n_7 [.int .i64 (r:Int),.int .i64 (c:Int)] H=some (.tuple ⟨[P0 m,.int .i64 0]⟩,H')∧MxOk H' o ⟨m,sm,pm,r,c,0,Sl.nil,[],[],fun _=>none,fun _=>none⟩∧Keep0 H H'∧∀j,j<H.next→o j=.z:=by
 obtain⟨m,sm,pm,H1,e1,a1,a2,a3,b1,b2,b3,b4,k1⟩:=New5_s d r c hr (show 1≤c∧c≤120 by omega) t.lt;refine⟨m,sm,pm,H1,tagS (tagS (tagS (fun _=>.z) (· =m) .m) (· =pm) .pm) (· =sm) .sm,e1,?_,k1,fun j hj=>(tagS_out (by omega)).trans ((tagS_out (by omega)).trans (tagS_out (by omega)))⟩;have ht:=t.lt;have q1:(tagS (tagS (tagS (fun _=>Tg.z) (· =m) .m) (· =pm) .pm) (· =sm) .sm) m=.m:=(tagS_out (by show¬m=sm;omega)).trans ((tagS_out (by show¬m=pm;omega)).trans (tagS_in rfl));have q2:(tagS (tagS (tagS (fun _=>Tg.z) (· =m) .m) (· =pm) .pm) (· =sm) .sm) pm=.pm:=(tagS_out (by show¬pm=sm;omega)).trans (tagS_in rfl);have q3:(tagS (tagS (tagS (fun _=>Tg.z) (· =m) .m) (· =pm) .pm) (· =sm) .sm) sm=.sm:=tagS_in rfl;have q4:∀k,k≠m→k≠pm→k≠sm→(tagS (tagS (tagS (fun _=>Tg.z) (· =m) .m) (· =pm) .pm) (· =sm) .sm) k=.z:=fun k e1 e2 e3=>by rw[tagS_out (S:=(· =sm)) e3,tagS_out (S:=(· =pm)) e2,tagS_out (S:=(· =m)) e1]
 exact{gm:=a1
       lm:=b4
       om:=q1
       gs:=⟨[],0,a2,⟨rfl,rfl,by simp,fun e he=>by simp at he⟩⟩
       ls:=by show sm<_;omega
       os:=q3
       gp:=⟨[],0,a3,⟨[],rfl,by simp,fun _ _=>rfl,fun i k e h=>by simp at h⟩⟩
       lp:=by show pm<_;omega
       op:=q2
       bf:=.inl ⟨rfl,rfl⟩
       ob:=fun k e=>absurd e Sl.at_nil
       hS:=fun s hs=>by simp at hs
       hW:=fun b w hw=>nomatch hw
       hP:=fun k x hx=>nomatch hx
       wm:=⟨hr,hc,fun k x hx=>(nomatch hx),by simp,by simp,by simp,fun s hs=>by simp at hs,fun b w hw=>(nomatch hw),fun s hs=>by simp at hs⟩
       tab:=t.keep k1 id id
       o5:=fun k hk=>q4 k (by omega) (by omega) (by omega)
       oz:=fun k hk=>q4 k (by omega) (by omega) (by omega)}
theorem SMap.add{es:List (Value×Value×Nat)}{clk:Nat}{ss:List Sn}(h:SMap es clk ss)(s:Sn):SMap (es++[(.string (S s.nm),P0 s.b,clk)]) (clk+1) (ss++[s]):=by
 refine⟨by simp[h.k],by simp[h.v],?_,fun e he=>?_⟩
 ·rw[List.map_append,List.nodup_append];refine⟨h.nd,by simp,fun a ha b hb=>?_⟩;obtain⟨e,he,rfl⟩:=List.mem_map.1 ha;have:=h.lt e he;simp only[List.map_cons,List.map_nil,List.mem_singleton]at hb;omega
 ·rcases List.mem_append.1 he with he|he
  ·have:=h.lt e he;omega
  ·rw[List.mem_singleton.1 he];exact Nat.lt_succ_self _
theorem Wm.sess{M:Md}(h:Wm M){nm:W}{s wl b:Nat}{w:Wn}(hf:findS M.ss nm=none)(hl:M.ss.length<8)(hs:s∉M.ss.map (·.b))(hw:M.W b=some w)(hb:∀t∈M.ss,b∉t.wbs)(hnl:nm.length≤20):Wm {M with ss:=M.ss++[⟨nm,s,wl,1,[b],0⟩],W:=updN M.W b (some {w with ses:=s})}:=by
 refine⟨h.r,h.c,h.nx,?_,?_,by show(M.ss++[_]).length≤8;rw[List.length_append,List.length_singleton];omega,fun t ht=>?_,fun c v hc=>?_,fun t ht=>?_⟩
 ·show((M.ss++[_]).map Sn.nm).Nodup;rw[List.map_append,List.nodup_append];exact⟨h.nn,by simp,fun a ha b hb e=>by simp only[List.map_cons,List.map_nil,List.mem_singleton]at hb;exact findS_none.1 hf (by rw[←hb,←e];exact ha)⟩
 ·show((M.ss++[_]).map Sn.b).Nodup;rw[List.map_append,List.nodup_append];exact⟨h.sb,by simp,fun a ha b hb e=>by simp only[List.map_cons,List.map_nil,List.mem_singleton]at hb;exact hs (by rw[←hb,←e];exact ha)⟩
 ·rcases List.mem_append.1 ht with ht|ht
  ·obtain⟨a1,a2,a3,a4⟩:=h.wb t ht;refine⟨a1,a2,a3,fun c hc=>?_⟩;obtain⟨v,v1,v2⟩:=a4 c hc;have hne:c≠b:=fun e=>hb t ht (e▸hc);exact⟨v,(updN_ne _ _ hne).trans v1,v2⟩
  ·rw[List.mem_singleton.1 ht];refine⟨by simp,by simp,by simp,fun c hc=>?_⟩;simp only[List.mem_singleton]at hc;subst hc;exact⟨_,updN_same _ _ _,rfl⟩
 ·by_cases e:c=b
  ·subst e;have hv:=(updN_same M.W c (some {w with ses:=s})).symm.trans hc;cases hv;exact h.tp c w hw
  ·exact h.tp c v ((updN_ne _ _ e).symm.trans hc)
 ·rcases List.mem_append.1 ht with ht|ht
  ·exact h.nl t ht
  ·rw[List.mem_singleton.1 ht];exact hnl
theorem MxOk.sess{H H3:Heap}{o:Ow}{M:Md}(h:MxOk H o M){nm:W}{s wl b:Nat}{w:Wn}(hf:findS M.ss nm=none)(hl:M.ss.length<8)(hw:M.W b=some w)(hb:∀t∈M.ss,b∉t.wbs)(hnl:nm.length≤20){es:List (Value×Value×Nat)}{clk:Nat}(hes:SMap es clk M.ss)(k3:Keep0 H H3)(od:H.next≤wl∧wl<s∧s<H3.next)(gw:H3.get wl=some (.cells [P0 b] t_82 false 0 false))(gs:H3.get s=some (.cells [.slice (some ⟨wl,0,none⟩) 1 1,.int .i64 0] t_86 false 0 false)):∃o',MxOk (H3.put M.sm (.map (es++[(.string (S nm),P0 s,clk)]) (clk+1))) o' {M with ss:=M.ss++[⟨nm,s,wl,1,[b],0⟩],W:=updN M.W b (some {w with ses:=s})}∧St H o (H3.put M.sm (.map (es++[(.string (S nm),P0 s,clk)]) (clk+1))) o':=by
 have k4:Keep (fun k=>k=M.sm) H3 (H3.put M.sm (.map (es++[(.string (S nm),P0 s,clk)]) (clk+1))):=Keep.put _ _ _ rfl;have g4:(H3.put M.sm (.map (es++[(.string (S nm),P0 s,clk)]) (clk+1))).get M.sm=some (.map (es++[(.string (S nm),P0 s,clk)]) (clk+1)):=by simp
 generalize H3.put M.sm (.map (es++[(.string (S nm),P0 s,clk)]) (clk+1))=H4 at*;have hk:KT o (fun t=>t=.sm) H H4:=(k3.to (S:=fun j=>o j=.sm)).trans k4 fun j _ e=>by have e':j=M.sm:=e;rw[e'];exact h.os
 have hsl:=h.ls;have he:Ex H o (tagS (tagS o (· =wl) (.wl s)) (· =s) (.s s)):=fun j hj=>(tagS_out (by omega)).trans (tagS_out (by omega));have nz:¬(fun t=>t=Tg.sm) Tg.z:=by simp
 have n4:=k4.1;have hsn:s∉M.ss.map (·.b):=fun hm=>by obtain⟨t,ht,e⟩:=List.mem_map.1 hm;have:=(h.hS t ht).lt;omega
 refine⟨tagS (tagS o (· =wl) (.wl s)) (· =s) (.s s),⟨h.kgm hk (by simp),h.klm hk,(he _ h.lm).trans h.om,⟨_,_,g4,hes.add ⟨nm,s,wl,1,[b],0⟩⟩,h.kls hk,(he _ h.ls).trans h.os,h.kgp hk (by simp),h.klp hk,(he _ h.lp).trans h.op,h.kbf hk (by simp),h.kob he,fun t ht=>?_,fun c v hv=>?_,fun j y hy=>(h.hP j y hy).keep hk he (by simp) (by simp) (by simp),h.wm.sess hf hl hsn hw hb hnl,h.ktab hk nz,h.ko5 he,fun j hj=>(tagS_out (by omega)).trans ((tagS_out (by omega)).trans (h.oz j (by have:=hk.1;omega)))⟩,St.of hk he nz⟩
 ·rcases List.mem_append.1 ht with ht|ht
  ·exact(h.hS t ht).keep hk he (by simp) (by simp)
  ·rw[List.mem_singleton.1 ht];refine⟨(k4.2 s (by omega) (by omega)).trans gs,by show s<_;omega,tagS_in rfl,⟨by show wl<_;omega,rfl,[],false,false,?_,rfl⟩,(tagS_out (by show¬wl=s;omega)).trans (tagS_in rfl)⟩;exact(k4.2 wl (by omega) (by omega)).trans gw
 ·by_cases e:c=b
  ·subst e;have hv':=(updN_same M.W c (some {w with ses:=s})).symm.trans hv;cases hv';have wx:=(h.hW c w hw).keep hk he (by simp) (by simp) (by simp);exact⟨wx.get,wx.lt,wx.ob,wx.gt,wx.tl,wx.ot,wx.tr,wx.od,wx.nd⟩
  ·have hv':M.W c=some v:=(updN_ne _ _ e).symm.trans hv;exact(h.hW c v hv').keep hk he (by simp) (by simp) (by simp)
def newE(M:Md)(nm:W):Int:=if rightB nm=false then 1 else if(findS M.ss nm).isSome then 15 else if 8≤M.ss.length then 2 else 0
theorem NewSession_x(d:Nat){H:Heap}{o:Ow}{M:Md}(h:MxOk H o M)(hn:M.next<100){nm:W}(hl:nm.length≤1000000000000)(he:newE M nm=0):∃s wl b tb nd x H' o',X (d+43) n_9 [P0 M.m,.string (S nm)] H=some (.int .i64 0,H')∧MxOk H' o' {M with next:=M.next+1,ss:=M.ss++[⟨nm,s,wl,1,[b],0⟩],W:=updN M.W b (some ⟨tb,.leaf nd (M.next:Int),(M.next:Int),false,s⟩),P:=upd M.P (M.next:Int) (some x)}∧x.q=GP.new M.rows M.cols∧x.qu=[]∧St H o H' o'∧H.next≤b:=by
 unfold newE at he;have hr:rightB nm=true:=by
  cases e:rightB nm with
  |true=>rfl
  |false=>rw[if_pos e]at he;cases he
 rw[if_neg (by simp[hr])]at he;have hf:findS M.ss nm=none:=by
  cases e:findS M.ss nm with
  |none=>rfl
  |some s=>rw[e,if_pos (by rfl)]at he;cases he
 rw[hf,if_neg (by simp)]at he;have h8:M.ss.length<8:=by
  by_cases e:8≤M.ss.length
  ·rw[if_pos e]at he;cases he
  ·omega
 rw[mux_Mux_NewSession_eq,h.l2];simp only[optK_s,asM_s];rw[h.lkSn hf true];simp only[lk_n,optK_s,castT_s,castL_c,castL_n,cast0,P0,asP_s,asB_s,List.getElem?_cons_zero,List.getElem?_cons_succ];rw[Right_x (d+41) nm hl H];simp only[callK_s,asB_s];rw[if_neg (by simp[hr]),if_neg (by simp)];obtain⟨es0,c0,g0,hes0⟩:=h.gs;simp only[h.l2,optK_s,asM_s];rw[show readD .lenMap [.map (some M.sm)] H=some (.int .i64 (es0.length:Int))by simp only[readD,Heap.ents,g0]];simp only[optK_s,asI_s];rw[if_neg (show¬decide ((8:Int)≤(es0.length:Int))=true by rw[decide_eq_true_eq,hes0.len];omega)];obtain⟨b,tb,nd,x,H1,o1,e1,h1,x1,x2,x3,s1,hb⟩:=fresh_x d h hn 0;rw[show X (d+42) n_27 [.pointer (some ⟨M.m,0,none⟩)] H=_ from e1];simp only[callK_s,P0,asP_s,newK_s];have k2:Keep0 H1 (H1.new (.cells [.pointer (some ⟨b,0,none⟩)] t_82 false 0 false)):=Keep.new _ _;have g2:(H1.new (.cells [.pointer (some ⟨b,0,none⟩)] t_82 false 0 false)).get H1.next=some (.cells [P0 b] t_82 false 0 false):=by simp
 have n2:(H1.new (.cells [.pointer (some ⟨b,0,none⟩)] t_82 false 0 false)).next=H1.next+1:=rfl
 generalize H1.new (.cells [.pointer (some ⟨b,0,none⟩)] t_82 false 0 false)=H2 at*;have k3:Keep0 H2 (H2.new (.cells [.slice (some ⟨H1.next,0,none⟩) 1 1,.int .i64 0] t_86 false 0 false)):=Keep.new _ _;have g3:(H2.new (.cells [.slice (some ⟨H1.next,0,none⟩) 1 1,.int .i64 0] t_86 false 0 false)).get H2.next=some (.cells [.slice (some ⟨H1.next,0,none⟩) 1 1,.int .i64 0] t_86 false 0 false):=by simp
 have n3:(H2.new (.cells [.slice (some ⟨H1.next,0,none⟩) 1 1,.int .i64 0] t_86 false 0 false)).next=H2.next+1:=rfl
 generalize H2.new (.cells [.slice (some ⟨H1.next,0,none⟩) 1 1,.int .i64 0] t_86 false 0 false)=H3 at*;have k13:=k2.trans k3;obtain⟨es,c,gs1,hes⟩:=h1.gs;have gs3:H3.get M.sm=some (.map es c):=k13.get h1.ls gs1;have hfm:mapFind .str (.string (S nm)) es 0=some none:=by have:=hes.find h1.wm.nn nm;rw[show findS M.ss nm=none from hf]at this;exact this
 have eu:∀K,effK (.mapE (.upd .str)) [.map (some M.sm),.string (S nm),.pointer (some ⟨H2.next,0,none⟩)] H3 K=K (.tuple #[]) (H3.put M.sm (.map (es++[(.string (S nm),P0 H2.next,c)]) (c+1))):=fun K=>by simp only[effK,mapD,isKey,if_true,Heap.ents,gs3,hfm,optK_s]
 rw[eu];obtain⟨o',h',s'⟩:=h1.sess (H3:=H3) (nm:=nm) (s:=H2.next) (wl:=H1.next) (b:=b) hf h8 (updN_same _ _ _) (fun t ht hbt=>by
  obtain⟨_,_,_,a4⟩:=h.wm.wb t ht;obtain⟨v,v1,_⟩:=a4 b hbt;have:=(h.hW b v v1).lt;omega) (by
  unfold rightB at hr;simp only[Bool.and_eq_true,decide_eq_true_eq]at hr;exact hr.2.2) hes k13 (by omega) (k3.get (by omega) g2) g3
 have l2':∀{Hx:Heap},Hx.get M.m=H1.get M.m→readD (.load 1 false) [.pointer (some ⟨M.m,2,none⟩)] Hx=some (.map (some M.sm)):=fun e=>(ld1_s (e.trans h1.gm)).trans rfl;have hm1:=h1.lm;have hm1':M.m<H1.next:=hm1
 rw[show rdsOk _ _=true from by simp only[rdsOk,Bool.and_true];rw[show 3+1-0=4 from rfl,rdOk_4,rdAt_s rfl (show readD (.load 1 false) [.pointer (some ⟨M.m,2,none⟩)] H=_ from h.l2) (by simp[same,same0]),rdAt_s rfl (l2' rfl) (by simp[same,same0]),rdAt_s rfl (l2' (k2.2 _ hm1' id)) (by simp[same,same0]),rdAt_s rfl (l2' (k13.2 _ hm1' id)) (by simp[same,same0])];rfl];simp only[chk_s];have hW2:updN (updN M.W b (some ⟨tb,.leaf nd (M.next:Int),(M.next:Int),false,0⟩)) b (some ⟨tb,.leaf nd (M.next:Int),(M.next:Int),false,H2.next⟩)=updN M.W b (some ⟨tb,.leaf nd (M.next:Int),(M.next:Int),false,H2.next⟩):=by
  funext j
  by_cases e:j=b
  ·rw[e,updN_same,updN_same]
  ·rw[updN_ne _ _ e,updN_ne _ _ e,updN_ne _ _ e]
 rw[hW2]at h';exact⟨H2.next,H1.next,b,tb,nd,x,_,o',rfl,h',x1,x2,s1.trans s',hb⟩
def insA(p m:Int):List Int→List Int
 |[]=>[]
 |a::l=>if a=p then a::m::l else a::insA p m l
theorem insA_left{p m:Int}:∀{l r:List Int},p∈l→insA p m (l++r)=insA p m l++r
 |[],_,h=>by simp at h
 |a::l,r,h=>by
  simp only[List.cons_append,insA];split
  ·rfl
  ·rename_i hne;have:p∈l:=by
    rcases List.mem_cons.1 h with e|e
    ·exact absurd e.symm hne
    ·exact e
   rw[insA_left this];rfl
theorem insA_right{p m:Int}:∀{l r:List Int},p∉l→insA p m (l++r)=l++insA p m r
 |[],_,_=>rfl
 |a::l,r,h=>by simp only[List.mem_cons,not_or]at h;simp only[List.cons_append,insA];rw[if_neg (fun e=>h.1 e.symm),insA_right h.2]
theorem insA_mem{p m x:Int}:∀{l:List Int},p∈l→(x∈insA p m l↔x∈l∨x=m)
 |[],h=>by simp at h
 |a::l,h=>by
  simp only[insA];split
  ·simp only[List.mem_cons];constructor
   ·rintro (e|e|e)
    ·exact .inl (.inl e)
    ·exact .inr e
    ·exact .inl (.inr e)
   ·rintro ((e|e)|e)
    ·exact .inl e
    ·exact .inr (.inr e)
    ·exact .inr (.inl e)
  ·rename_i hne;have hp:p∈l:=by
    rcases List.mem_cons.1 h with e|e
    ·exact absurd e.symm hne
    ·exact e
   simp only[List.mem_cons,insA_mem hp];constructor
   ·rintro (e|e|e)
    ·exact .inl (.inl e)
    ·exact .inl (.inr e)
    ·exact .inr e
   ·rintro ((e|e)|e)
    ·exact .inl e
    ·exact .inr (.inl e)
    ·exact .inr (.inr e)
theorem insA_nodup{p m:Int}:∀{l:List Int},p∈l→l.Nodup→m∉l→(insA p m l).Nodup
 |[],h,_,_=>by simp at h
 |a::l,h,hn,hm=>by
  rw[List.nodup_cons]at hn;simp only[List.mem_cons,not_or]at hm;simp only[insA];split
  ·rw[List.nodup_cons,List.nodup_cons];refine⟨?_,hm.2,hn.2⟩;simp only[List.mem_cons,not_or];exact⟨fun e=>hm.1 e.symm,hn.1⟩
  ·rename_i hne;have hp:p∈l:=by
    rcases List.mem_cons.1 h with e|e
    ·exact absurd e.symm hne
    ·exact e
   rw[List.nodup_cons];refine⟨fun e=>?_,insA_nodup hp hn.2 hm.2⟩;rcases (insA_mem hp).1 e with e|e
   ·exact hn.1 e
   ·exact hm.1 e.symm
theorem AT.split_ins(p more:Int)(ac:Bool)(pt:Int)(n1 n2:Nat):∀t:AT,p∈t.panes→(t.split p more ac pt n1 n2).panes=insA p more t.panes
 | .leaf x q,h=>by simp only[AT.panes,List.mem_singleton]at h;subst h;simp[AT.split,AT.panes,insA]
 | .nd x a q l r,h=>by
   unfold AT.split;split
   ·rename_i hl;simp only[AT.panes];rw[AT.split_ins p more ac pt n1 n2 l hl,insA_left hl]
   ·rename_i hl;simp only[AT.panes,List.mem_append]at h;have hr:=h.resolve_left hl;simp only[AT.panes];rw[AT.split_ins p more ac pt n1 n2 r hr,insA_right hl]
theorem AT.split_nodup(p more:Int)(ac:Bool)(pt:Int){n1 n2:Nat}(hne:n1≠n2):∀t:AT,t.dom.Nodup→n1∉t.dom→n2∉t.dom→(t.split p more ac pt n1 n2).dom.Nodup
 | .leaf x q,_,h1,h2=>by simp only[AT.dom,List.mem_singleton]at h1 h2;simp[AT.split,AT.dom,hne];exact⟨fun e=>h1 e.symm,fun e=>h2 e.symm⟩
 | .nd x a q l r,hn,h1,h2=>by
   simp only[AT.dom,List.nodup_cons,List.nodup_append,List.mem_append,List.mem_cons,not_or]at hn h1 h2;obtain⟨d1,d2,d3,d4⟩:=hn;unfold AT.split;split
   ·simp only[AT.dom,List.nodup_cons,List.nodup_append,List.mem_append];refine⟨fun e=>?_,AT.split_nodup p more ac pt hne l d2 h1.2.1 h2.2.1,d3,fun y hy z hz e=>?_⟩
    ·rcases e with e|e
     ·rcases (l.split_dom p more ac pt n1 n2 x).1 e with e|e|e
      ·exact d1.1 e
      ·exact h1.1 e.symm
      ·exact h2.1 e.symm
     ·exact d1.2 e
    ·rcases (l.split_dom p more ac pt n1 n2 y).1 hy with e'|e'|e'
     ·exact d4 y e' z hz e
     ·exact h1.2.2 (by rw[←e',e];exact hz)
     ·exact h2.2.2 (by rw[←e',e];exact hz)
   ·simp only[AT.dom,List.nodup_cons,List.nodup_append,List.mem_append];refine⟨fun e=>?_,d2,AT.split_nodup p more ac pt hne r d3 h1.2.2 h2.2.2,fun y hy z hz e=>?_⟩
    ·rcases e with e|e
     ·exact d1.1 e
     ·rcases (r.split_dom p more ac pt n1 n2 x).1 e with e|e|e
      ·exact d1.2 e
      ·exact h1.1 e.symm
      ·exact h2.1 e.symm
    ·rcases (r.split_dom p more ac pt n1 n2 z).1 hz with e'|e'|e'
     ·exact d4 y hy z e' e
     ·exact h1.2.1 (by rw[←e',←e];exact hy)
     ·exact h2.2.1 (by rw[←e',←e];exact hy)
theorem AT.split_small{p more:Int}{ac:Bool}{pt:Int}{n1 n2:Nat}(h1:0≤p∧p<100)(h2:0≤more∧more<100)(h3:0≤pt∧pt<100):∀{t:AT},t.small→(t.split p more ac pt n1 n2).small
 | .leaf x q,_=>⟨h3,h1,h2⟩
 | .nd x a q l r,⟨s1,s2,s3⟩=>by
   unfold AT.split;split
   ·exact⟨s1,AT.split_small h1 h2 h3 s2,s3⟩
   ·exact⟨s1,s2,AT.split_small h1 h2 h3 s3⟩
theorem AT.small_pane:∀{t:AT},t.small→∀p∈t.panes,0≤p∧p<100
 | .leaf x q,h,p,hp=>by simp only[AT.panes,List.mem_singleton]at hp;rw[hp];exact h
 | .nd x a q l r,⟨_,h1,h2⟩,p,hp=>by
   simp only[AT.panes,List.mem_append]at hp;rcases hp with hp|hp
   ·exact AT.small_pane h1 p hp
   ·exact AT.small_pane h2 p hp
theorem AT.find_inn{p:Int}:∀{t:AT} {b:Rc},b.ok→(t.find p b).2.inn b
 | .leaf _ _,b,_=>Rc.inn_refl _
 | .nd _ ac pt l r,b,h=>by
   obtain⟨o1,o2⟩:=partsP_ok (ac:=ac) (pt:=pt) h;obtain⟨i1,i2⟩:=partsP_inn (ac:=ac) (pt:=pt) h;unfold AT.find;split
   ·exact(AT.find_inn (t:=l) o1).trans i1
   ·exact(AT.find_inn (t:=r) o2).trans i2
def Wn.split(M:Md)(w:Wn)(ac:Bool)(n1 n2:Nat):Wn:={w with t:=w.t.split w.act (M.next:Int) ac (wideP ac (w.t.find w.act (winRc M.rows M.cols)).2/2) n1 n2,act:=(M.next:Int),zm:=false}
theorem Wm.split{M:Md}(h:Wm M){b:Nat}{w:Wn}(hw:M.W b=some w){ac:Bool}{n1 n2:Nat}{x:Pn}(hx:x.win=b)(hn:M.next<100)(hs:splitE w.t w.act ac (winRc M.rows M.cols)=0):Wm {M with next:=M.next+1,W:=updN M.W b (some (w.split M ac n1 n2)),P:=upd M.P (M.next:Int) (some x)}:=by
 have hP:M.P (M.next:Int)=none:=by
  cases e:M.P (M.next:Int)with
  |none=>rfl
  |some y=>have:=(h.nx _ y e).2;omega
 obtain⟨t1,t2,t3,t4,t5⟩:=h.tp b w hw;have hnot:(M.next:Int)∉w.t.panes:=fun e=>by obtain⟨z,z1,_⟩:=t4 _ e;rw[hP]at z1;cases z1
 have hwin:(winRc M.rows M.cols).ok:=winRc_ok ⟨by have:=h.r;omega,by have:=h.c;omega⟩;refine⟨h.r,h.c,fun k y hy=>?_,h.nn,h.sb,h.sl,fun s hs=>?_,fun c v hc=>?_,h.nl⟩
 ·by_cases e:k=(M.next:Int)
  ·subst e;refine⟨by omega,?_⟩;show(M.next:Int)<((M.next+1:Nat):Int);omega
  ·obtain⟨a1,a2⟩:=h.nx k y ((upd_ne _ _ e).symm.trans hy);refine⟨a1,?_⟩;show k<((M.next+1:Nat):Int);omega
 ·obtain⟨a1,a2,a3,a4⟩:=h.wb s hs;refine⟨a1,a2,a3,fun c hc=>?_⟩;obtain⟨v,v1,v2⟩:=a4 c hc;by_cases e:c=b
  ·subst e;rw[hw]at v1;cases v1;exact⟨_,updN_same _ _ _,v2⟩
  ·exact⟨v,(updN_ne _ _ e).trans v1,v2⟩
 ·by_cases e:c=b
  ·subst e;have hv:=(updN_same M.W c (some (w.split M ac n1 n2))).symm.trans hc;cases hv;have hp:=AT.split_ins w.act (M.next:Int) ac (wideP ac (w.t.find w.act (winRc M.rows M.cols)).2/2) n1 n2 w.t t3;have hl:=AT.split_panes w.act (M.next:Int) ac (wideP ac (w.t.find w.act (winRc M.rows M.cols)).2/2) n1 n2 w.t;have h12:w.t.panes.length<12:=by
    unfold splitE at hs;by_cases e:12≤w.t.panes.length
    ·rw[if_pos e]at hs;cases hs
    ·omega
   unfold Wn.split;refine⟨by rw[hp];exact insA_nodup t3 t1 hnot,by rw[hl];omega,by rw[hp];exact(insA_mem t3).2 (.inr rfl),fun p hpm=>?_,AT.split_small (AT.small_pane t5 _ t3) (by omega) ?_ t5⟩
   ·rw[hp]at hpm;rcases (insA_mem t3).1 hpm with e|e
    ·obtain⟨z,z1,z2⟩:=t4 p e;have hne:p≠(M.next:Int):=fun e'=>hnot (e'▸e);exact⟨z,(upd_ne _ _ hne).trans z1,z2⟩
    ·subst e;exact⟨x,upd_same _ _ _,hx⟩
   ·have ok:=AT.find_ok (p:=w.act) (t:=w.t) hwin;obtain⟨i1,i2,i3,i4⟩:=AT.find_inn (p:=w.act) (t:=w.t) hwin;obtain⟨w1,w2⟩:=wideP_ok (ac:=ac) ok;obtain⟨o1,o2,o3,o4,_,_⟩:=ok;have e1:(winRc M.rows M.cols).row=0:=rfl;have e2:(winRc M.rows M.cols).col=0:=rfl;have e3:(winRc M.rows M.cols).rows=M.rows:=rfl;have e4:(winRc M.rows M.cols).cols=M.cols:=rfl;have r2:=h.r;have c2:=h.c;have:wideP ac (w.t.find w.act (winRc M.rows M.cols)).2≤90:=by unfold wideP;split<;>omega
    omega
  ·obtain⟨t1,t2,t3,t4,t5⟩:=h.tp c v ((updN_ne _ _ e).symm.trans hc);refine⟨t1,t2,t3,fun p hp=>?_,t5⟩;obtain⟨z,z1,z2⟩:=t4 p hp;have hne:p≠(M.next:Int):=fun e=>by rw[e,hP]at z1;cases z1
   exact⟨z,(upd_ne _ _ hne).trans z1,z2⟩
theorem MxOk.split{H H':Heap}{o:Ow}{M:Md}(h:MxOk H o M)(hn:M.next<100){b:Nat}{w:Wn}(hw:M.W b=some w){ac:Bool}{n1 n2 p:Nat}{A:GA}(hs:splitE w.t w.act ac (winRc M.rows M.cols)=0)(gm:H'.get M.m=some (.cells [.int .i64 (M.rows:Int),.int .i64 (M.cols:Int),.map (some M.sm),.map (some M.pm),.int .i64 ((M.next+1:Nat):Int),M.bs.v] t_75 false 0 false))(gp:∃es clk,PMap es M.P∧H'.get M.pm=some (.map (es++[(keyI (M.next:Int),P0 p,clk)]) (clk+1)))(gb:H'.get b=some (.cells [P0 w.tb,.int .i64 (M.next:Int),.bool false] t_90 false 0 false))(tr:TR H' (w.split M ac n1 n2).t)(gpp:H'.get p=some (.cells [P0 A.D.p,Sl.nil.v] t_102 false 0 false))(gr:Gr H' A (GP.new M.rows M.cols))(od:H.next≤n1∧n1<n2∧n2<p∧p<H'.next)(hA:∀k,A.foot k→n2<k∧k≠p)(hk:Keep (fun k=>k=(w.t.find w.act (winRc M.rows M.cols)).1.x∨k=b∨k=M.m∨k=M.pm) H H'):∃o',MxOk H' o' {M with next:=M.next+1,W:=updN M.W b (some (w.split M ac n1 n2)),P:=upd M.P (M.next:Int) (some ⟨p,A,GP.new M.rows M.cols,Sl.nil,[],b⟩)}∧St H o H' o':=by
 have wx:=h.hW b w hw;obtain⟨t1,t2,t3,t4,t5⟩:=h.wm.tp b w hw;obtain⟨y,qq,e1,e2,_⟩:=w.t.find_leaf w.act (winRc M.rows M.cols);have ey:(w.t.find w.act (winRc M.rows M.cols)).1.x=y:=by rw[e1];rfl
 rw[ey]at hk;have hk':KT o (fun t=>t=.nd b∨t=.w b∨t=.m∨t=.pm) H H':=hk.mono fun j _ e=>by
  rcases e with e|e|e|e
  ·rw[e];exact .inl (wx.od y e2)
  ·rw[e];exact .inr (.inl wx.ob)
  ·rw[e];exact .inr (.inr (.inl h.om))
  ·rw[e];exact .inr (.inr (.inr h.op))
 have hPn:M.P (M.next:Int)=none:=by
  cases e:M.P (M.next:Int)with
  |none=>rfl
  |some y=>have:=(h.wm.nx _ y e).2;omega
 let o1:Ow:=tagS (tagS (tagS (tagS o A.foot (.g (M.next:Int))) (· =p) (.p (M.next:Int))) (· =n1) (.nd b)) (· =n2) (.nd b)
 have q1:o1 n2=.nd b:=tagS_in rfl;have q2:o1 n1=.nd b:=(tagS_out (by omega)).trans (tagS_in rfl);have q4:o1 p=.p (M.next:Int):=(tagS_out (by omega)).trans ((tagS_out (by omega)).trans (tagS_in rfl));have q5:∀j,A.foot j→o1 j=.g (M.next:Int):=fun j e=>by have:=hA j e;exact(tagS_out (by omega)).trans ((tagS_out (by omega)).trans ((tagS_out (by omega)).trans (tagS_in e)))
 have he:Ex H o o1:=fun j hj=>(tagS_out (by omega)).trans ((tagS_out (by omega)).trans ((tagS_out (by omega)).trans (tagS_out fun e=>by have:=hA j e;omega)));have nz:¬(fun t=>t=Tg.nd b∨t=Tg.w b∨t=Tg.m∨t=Tg.pm) Tg.z:=by simp
 have hdl:=TR.dom_lt wx.tr;refine⟨o1,⟨gm,h.klm hk',(he _ h.lm).trans h.om,h.kgs hk' (by simp),h.kls hk',(he _ h.ls).trans h.os,?_,h.klp hk',(he _ h.lp).trans h.op,h.kbf hk' (by simp),h.kob he,fun s hs=>(h.hS s hs).keep hk' he (by simp) (by simp),fun c v hv=>?_,fun j y hy=>?_,h.wm.split hw rfl hn hs,h.ktab hk' nz,h.ko5 he,fun j hj=>?_⟩,St.of hk' he nz⟩
 ·obtain⟨es,clk,h1,h2⟩:=gp;exact⟨_,_,h2,h1.add hPn ⟨p,A,GP.new M.rows M.cols,Sl.nil,[],b⟩ clk⟩
 ·by_cases e:c=b
  ·subst e;have hv':=(updN_same M.W c (some (w.split M ac n1 n2))).symm.trans hv;cases hv';refine⟨gb,by have:=wx.lt;have:=hk.1;omega,(he _ wx.lt).trans wx.ob,?_,by have:=wx.tl;have:=hk.1;show w.tb<_;omega,(he _ wx.tl).trans wx.ot,tr,fun j hj=>?_,?_⟩
   ·show H'.get w.tb=some (.cells [P0 (w.split M ac n1 n2).t.x] t_164 false 0 false);rw[show(w.split M ac n1 n2).t.x=w.t.x from AT.split_x _ _ _ _ _ _ _];exact(hk'.2 _ wx.tl (owt (T:=fun t=>t=.nd c∨t=.w c∨t=.m∨t=.pm) wx.ot (by simp))).trans wx.gt
   ·rcases (w.t.split_dom _ _ _ _ n1 n2 j).1 hj with e|e|e
    ·exact(he j (hdl j e)).trans (wx.od j e)
    ·rw[e];exact q2
    ·rw[e];exact q1
   ·exact AT.split_nodup _ _ _ _ (by omega) _ wx.nd (fun e=>by have:=hdl _ e;omega) (fun e=>by have:=hdl _ e;omega)
  ·have hv':M.W c=some v:=(updN_ne _ _ e).symm.trans hv;exact(h.hW c v hv').keep hk' he (by simp[e]) (by simp) (by simp[e])
 ·by_cases e:j=(M.next:Int)
  ·subst e;have hy':=(upd_same M.P (M.next:Int) (some ⟨p,A,GP.new M.rows M.cols,Sl.nil,[],b⟩)).symm.trans hy;cases hy';exact⟨gpp,by show p<_;omega,q4,gr,q5,Tl.nil _,fun j e=>absurd e Sl.at_nil,by simp⟩
  ·have hy':M.P j=some y:=(upd_ne _ _ e).symm.trans hy;exact(h.hP j y hy').keep hk' he (by simp) (by simp) (by simp)
 ·have hn':=hk.1;exact(tagS_out (by omega)).trans ((tagS_out (by omega)).trans ((tagS_out (by omega)).trans ((tagS_out fun e=>by have:=gr.lt e;omega).trans (h.oz j (by omega)))))
section
variable{H:Heap}{o:Ow}{M:Md}(h:MxOk H o M)
include h
theorem Split_x(d:Nat)(hn:M.next<100){n:W}{s:Sn}{b:Nat}{w:Wn}(hc:cur M n s b w)(ac:Bool):(splitE w.t w.act ac (winRc M.rows M.cols)≠0∧∃H',X (d+42) n_10 [P0 M.m,.string (S n),.bool ac] H=some (.int .i64 (splitE w.t w.act ac (winRc M.rows M.cols)),H')∧Keep0 H H')∨(splitE w.t w.act ac (winRc M.rows M.cols)=0∧∃n1 n2 x H' o' P',X (d+42) n_10 [P0 M.m,.string (S n),.bool ac] H=some (.int .i64 0,H')∧MxOk H' o' {M with next:=M.next+1,W:=updN M.W b (some (w.split M ac n1 n2)),P:=P'}∧St H o H' o'∧x.q=GP.new M.rows M.cols∧x.qu=[]∧x.win=b∧FitR M (w.split M ac n1 n2) (upd M.P (M.next:Int) (some x)) P' ((w.split M ac n1 n2).t.panes.zip ((w.split M ac n1 n2).t.places (winRc M.rows M.cols)))):=by
 have hw:=hc.2.2.1;have wx:=h.hW b w hw;obtain⟨r1,r2⟩:=h.wm.r;obtain⟨c1,c2⟩:=h.wm.c;obtain⟨t1,t2,t3,t4,t5⟩:=h.wm.tp b w hw;have hPn:M.P (M.next:Int)=none:=by
  cases e:M.P (M.next:Int)with
  |none=>rfl
  |some y=>have:=(h.wm.nx _ y e).2;omega
 have hnot:(M.next:Int)∉w.t.panes:=fun e=>by obtain⟨z,z1,_⟩:=t4 _ e;rw[hPn]at z1;cases z1
 rw[mux_Mux_Split_eq,window_c h (d+40) hc];simp only[callK_s,P0,asP_s];rw[if_neg (by simp)];simp only[nilP_s,ap_0,ap_1];rw[(ld1_s wx.get).trans (show _=some (P0 w.tb)from rfl)];simp only[optK_s,P0,asP_s];rw[(ld1_s wx.get).trans (show _=some (Value.int .i64 w.act)from rfl)];simp only[optK_s,asI_s];rw[h.l4];simp only[optK_s,asI_s];rw[h.l0];simp only[optK_s,asI_s];rw[h.l1];simp only[optK_s,asI_s];have hht:=w.t.ht_lt;obtain⟨d',hd⟩:∃d',d+41=2+(w.t.ht+(2+d'))+1+1+1+1+1+1:=⟨d+31-w.t.ht,by omega⟩;obtain⟨H1,e1,k1⟩:=lySplit_s d' M.rows M.cols ⟨by omega,by omega⟩ w.act (M.next:Int) ac wx.gt wx.tl wx.tr wx.nd (by omega) (by omega) t3 hnot;rw[show X (d+41) n_29 [.pointer (some ⟨w.tb,0,none⟩),.int .i64 w.act,.int .i64 (M.next:Int),.bool ac,.int .i64 (M.rows:Int),.int .i64 (M.cols:Int)] H=some (.int .i64 (splitE w.t w.act ac (winRc M.rows M.cols)),H1)from by rw[hd];exact e1];simp only[callK_s,asI_s];rcases k1 with ⟨hs,k1⟩|⟨hs,n1,n2,tr1,o1,o2,o3,k1⟩
 ·refine .inl ⟨hs,H1,?_,k1⟩;rw[if_pos (by simp[hs])]
 ·refine .inr ⟨hs,?_⟩;rw[if_neg (by simp[hs])];obtain⟨y,qq,e1',e2',_⟩:=w.t.find_leaf w.act (winRc M.rows M.cols);have ey:(w.t.find w.act (winRc M.rows M.cols)).1.x=y:=by rw[e1'];rfl
  have oy:=wx.od y e2';have hyb:b≠y:=fun e=>by have:=wx.ob;rw[e,oy]at this;cases this
  have hym:M.m≠y:=fun e=>by have:=h.om;rw[e,oy]at this;cases this
  have hyp:M.pm≠y:=fun e=>by have:=h.op;rw[e,oy]at this;cases this
  have hbm:M.m≠b:=fun e=>by have:=h.om;rw[e,wx.ob]at this;cases this
  have hbp:M.pm≠b:=fun e=>by have:=h.op;rw[e,wx.ob]at this;cases this
  have hmp:M.m≠M.pm:=fun e=>by have:=h.om;rw[e,h.op]at this;cases this
  have wlt:=wx.lt;have mlt:=h.lm;have plt:=h.lp;have k1':Keep (fun k=>k=y) H H1:=k1.mono fun k _ e=>e.trans ey;have m1:=k1.1;have gm1:=(k1'.2 M.m mlt hym).trans h.gm;have gb1:=(k1'.2 b wlt hyb).trans wx.get;rw[(ld1_s gm1).trans (show _=some (Value.int .i64 (M.next:Int))from rfl)];simp only[optK_s,asI_s];rw[show(0+1:Nat)=1 from rfl,(st1_s (v:=.int .i64 (M.next:Int)) gb1 (by show 1<3;omega) (by omega)).trans (show _=some (H1.put b (.cells [P0 w.tb,.int .i64 (M.next:Int),.bool w.zm] t_90 false 0 false))from rfl)];simp only[optK_s];have k2:Keep (fun k=>k=b) H1 (H1.put b (.cells [P0 w.tb,.int .i64 (M.next:Int),.bool w.zm] t_90 false 0 false)):=Keep.put _ _ _ rfl;have g2:(H1.put b (.cells [P0 w.tb,.int .i64 (M.next:Int),.bool w.zm] t_90 false 0 false)).get b=some (.cells [P0 w.tb,.int .i64 (M.next:Int),.bool w.zm] t_90 false 0 false):=by simp
  have n2':(H1.put b (.cells [P0 w.tb,.int .i64 (M.next:Int),.bool w.zm] t_90 false 0 false)).next=H1.next:=rfl
  generalize H1.put b (.cells [P0 w.tb,.int .i64 (M.next:Int),.bool w.zm] t_90 false 0 false)=H2 at*;rw[show ap ⟨b,0,none⟩ 2=⟨b,2,none⟩from rfl,(st1_s (v:=.bool false) g2 (by show 2<3;omega) (by omega)).trans (show _=some (H2.put b (.cells [P0 w.tb,.int .i64 (M.next:Int),.bool false] t_90 false 0 false))from rfl)];simp only[optK_s];have k3:Keep (fun k=>k=b) H2 (H2.put b (.cells [P0 w.tb,.int .i64 (M.next:Int),.bool false] t_90 false 0 false)):=Keep.put _ _ _ rfl;have g3:(H2.put b (.cells [P0 w.tb,.int .i64 (M.next:Int),.bool false] t_90 false 0 false)).get b=some (.cells [P0 w.tb,.int .i64 (M.next:Int),.bool false] t_90 false 0 false):=by simp
  have n3':(H2.put b (.cells [P0 w.tb,.int .i64 (M.next:Int),.bool false] t_90 false 0 false)).next=H2.next:=rfl
  generalize H2.put b (.cells [P0 w.tb,.int .i64 (M.next:Int),.bool false] t_90 false 0 false)=H3 at*;have k13:Keep (fun k=>k=b) H1 H3:=k2.trans k3 fun _ _ e=>e;have k03:Keep (fun k=>k=y∨k=b) H H3:=(k1'.mono (T:=fun k=>k=y∨k=b) fun _ _ e=>.inl e).trans k13 fun _ _ e=>.inr e;obtain⟨es,clk,gpm,hpm⟩:=h.gp;obtain⟨p,A,H4,e4,a1,a2,a3,a4,a5,a6,a7,a8⟩:=make_s (d+33) M.rows M.cols M.next ⟨r1,r2⟩ (show 1≤M.cols∧M.cols≤120 by omega) (by omega) (show 3<H3.next by have:=h.tab.lt;omega) ((k03.2 M.m mlt (by omega)).trans h.gm) (by omega) ((k03.2 M.pm plt (by omega)).trans gpm) (by omega) hmp (hpm.fnone hPn)
  rw[show X (d+41) n_30 [.pointer (some ⟨M.m,0,none⟩)] H3=_ from e4];simp only[callK_s];have m4:=a8.1;have ndom:∀j∈(w.split M ac n1 n2).t.dom,j≠b∧j≠M.m∧j≠M.pm∧j<H1.next:=fun j hj=>by
   rcases (w.t.split_dom _ _ _ _ n1 n2 j).1 hj with e|e|e
   ·have h1:=wx.od j e;have h2:=TR.dom_lt wx.tr j e;refine⟨fun e'=>?_,fun e'=>?_,fun e'=>?_,by omega⟩
    ·rw[e',wx.ob]at h1;cases h1
    ·rw[e',h.om]at h1;cases h1
    ·rw[e',h.op]at h1;cases h1
   ·omega
   ·omega
  obtain⟨o4,h4,s4⟩:=h.split (H':=H4) hn hw (ac:=ac) (n1:=n1) (n2:=n2) (p:=p) (A:=A) hs a1 ⟨es,clk,hpm,a2⟩ ((a8.2 b (by omega) (by omega)).trans g3) (TR.keep a8 (TR.keep k13 tr1 fun j hj e=>(ndom j hj).1 e) fun j hj e=>by have:=ndom j hj;omega) a3 a6 (by omega) (fun k e=>by have:=a7 k e;omega) (by rw[ey];exact(k03.mono (T:=fun k=>k=y∨k=b∨k=M.m∨k=M.pm) fun _ _ e=>by rcases e with e|e;exact .inl e;exact .inr (.inl e)).trans a8 fun _ _ e=>.inr (.inr e));obtain⟨H5,o5,P5,e5,h5,s5,f5⟩:=fit_x d h4 (b:=b) (updN_same _ _ _);rw[show X (d+41) n_31 [.pointer (some ⟨M.m,0,none⟩),.pointer (some ⟨b,0,none⟩)] H4=_ from e5];simp only[callK_s];exact⟨n1,n2,⟨p,A,GP.new M.rows M.cols,Sl.nil,[],b⟩,H5,o5,P5,rfl,h5,s4.trans s5,rfl,rfl,rfl,f5⟩
end
theorem AT.size_eq:∀t:AT,t.size+1=2*t.panes.length
 | .leaf _ _=>rfl
 | .nd _ _ _ l r=>by have h1:=l.size_eq;have h2:=r.size_eq;simp only[AT.size,AT.panes,List.length_append];omega
open Classical in
noncomputable def AT.str(t:AT):W:=if h:t.small∧t.size≤1000 then Classical.choose (lyString_s t h.1 h.2)else []
theorem AT.str_s{t:AT}(h1:t.small)(h2:t.size≤1000):t.str.length≤10*t.size∧∀(d:Nat) (H:Heap) (tb:Nat),H.get tb=some (.cells [P0 t.x] t_164 false 0 false)→TR H t→X (d+t.ht+5+1) n_35 [P0 tb] H=some (.string (S t.str),H):=by unfold AT.str;rw[dif_pos ⟨h1,h2⟩];exact Classical.choose_spec (lyString_s t h1 h2)
noncomputable def twV(x:Sl×Wn):List Value:=[x.1.v,.int .i64 x.2.act,.bool x.2.zm,.string (S x.2.t.str)]
theorem twV_len(x:Sl×Wn):(twV x).length=4:=rfl
structure Tds where
 nm:W
 cur:Nat
 sl:Sl
 L:List (Sl×Wn)
def Tds.v(x:Tds):List Value:=[.string (S x.nm),.int .i64 (x.cur:Int),x.sl.v]
theorem Tds.v_len(x:Tds):x.v.length=3:=rfl
def Tds.at(x:Tds)(k:Nat):Prop:=x.sl.at k∨∃y∈x.L,y.1.at k
structure Tds.ok(x:Tds)(H:Heap)(M:Md)(se:Sn):Prop where
 w:Whole H x.sl (x.L.flatMap twV) t_32 4
 p:∀y∈x.L,Whole H y.1 (y.2.t.panes.map (.int .i64)) t_3 1
 nm:x.nm=se.nm
 cur:x.cur=se.cur
 wn:x.L.map (fun y=>some y.2)=se.wbs.map M.W
theorem Tds.ok.keep{S:Nat→Prop}{x:Tds}{H H':Heap}{M:Md}{se:Sn}(h:x.ok H M se)(hk:Keep S H H')(hs:∀k,x.at k→¬S k):x.ok H' M se:=⟨h.w.keep hk fun k e=>hs k (.inl e),fun y hy=>(h.p y hy).keep hk fun k e=>hs k (.inr ⟨y,hy,e⟩),h.nm,h.cur,h.wn⟩
theorem Tds.ok.lt{x:Tds}{H:Heap}{M:Md}{se:Sn}(h:x.ok H M se){k:Nat}(hk:x.at k):k<H.next:=by
 rcases hk with e|⟨y,hy,e⟩
 ·exact Whole.lt h.w e
 ·exact Whole.lt (h.p y hy) e
theorem wins_x(d m0:Nat){Hs:Heap}{o:Ow}{M:Md}(h0:MxOk Hs o M){se:Sn}(hse:se∈M.ss){p7:Nat}{x3 x15:Sl}{x16:Int}{i:Nat}{cs3:List Value}(hi:i≤1000)(hx3:x3.n≤1000)(h7:Hs.next≤p7)(h37:¬x3.at p7):
  ∀(m1 k:Nat) (H:Heap) (ws:Sl) (L:List (Sl×Wn)),se.wbs.length-k<m1→k≤se.wbs.length→Keep0 Hs H→H.get p7=some (.cells [.string (S se.nm),.int .i64 (se.cur:Int),ws.v] t_35 false 0 false)→p7<H.next→Whole H ws (L.flatMap twV) t_32 4→
   L.map (fun y=>some y.2)=(se.wbs.take k).map M.W→(∀y∈L,Whole H y.1 (y.2.t.panes.map (.int .i64)) t_3 1)→(∀j,ws.at j→Hs.next≤j∧j≠p7∧¬x3.at j)→(∀y∈L,∀j,y.1.at j→Hs.next≤j∧j≠p7∧¬ws.at j∧¬x3.at j)→Whole H x3 cs3 t_35 3→
   ∃y T H',j2c (d+30) m0 m1 M.m x3 p7 x15 x16 (i:Int) ⟨some ⟨se.wl,0,none⟩,se.wbs.length,se.cap⟩ ((se.wbs.length:Nat):Int) (k:Int) H=jj (d+30) m0 M.m y x15 x16 ((i+1:Nat):Int) H'∧Whole H' y (cs3++Tds.v T) t_35 3∧T.ok H' M se∧Keep (fun j=>x3.at j∨j=p7∨ws.at j) H H'∧(∀j,y.at j→H.next≤j∧¬T.at j)∧(∀j,T.at j→Hs.next≤j):=by
 intro m1;obtain⟨u1,u2,u3,u4⟩:=h0.wm.wb se hse;induction m1 with
 |zero=>intro k H ws L hm;omega
 |succ m1 ih=>
  intro k H ws L hm hk k0 g7 l7 hws hL hp hwa hLa hw3;have h:=h0.new k0;have sx:=h.hS se hse;rw[j2c_s];have hLl:L.length=k:=by have:=congrArg List.length hL;rw[List.length_map,List.length_map,List.length_take]at this;omega
  have hwsn:ws.n=k:=by have:=(Whole.len hws).1;rw[fm_len twV 4 twV_len,hLl]at this;omega
  by_cases hlt:k<se.wbs.length
  ·rw[if_pos (show decide ((k:Int)<((se.wbs.length:Nat):Int))=true from decide_eq_true (by omega))];simp only[optK_s];rw[if_pos (show(0:Int)≤(k:Int)∧(k:Int)<((se.wbs.length:Nat):Int)by omega),Int.toNat_natCast,show ap ⟨se.wl,0,none⟩ (k*1)=⟨se.wl,k,none⟩by simp[ap]];have hb:se.wbs[k]?=some se.wbs[k]:=List.getElem?_eq_getElem hlt;have hbm:se.wbs[k]∈se.wbs:=List.getElem_mem hlt;generalize se.wbs[k]=b at hb hbm;obtain⟨w,hw,hws'⟩:=u4 b hbm;obtain⟨_,_,Z,op,st,gl,_⟩:=sx.ws;rw[ld1_s gl,List.getElem?_append_left (by simpa using hlt),List.getElem?_map,hb];simp only[Option.map_some,optK_s,P0,asP_s];have t3:∀Hx:Heap,Hx.get p7=some (.cells [.string (S se.nm),.int .i64 (se.cur:Int),ws.v] t_35 false 0 false)→readD (.load 1 false) [.pointer (some ⟨p7,2,none⟩)] Hx=some ws.v:=fun Hx hh=>(ld1_s hh).trans rfl;rw[show Heap.ld1 H ⟨p7,2,none⟩=some ws.v from t3 H g7];simp only[optK_s,asSL_k,nilP_s,ap_0,ap_1];have wx:=h.hW b w hw;obtain⟨tp1,tp2,tp3,tp4,tp5⟩:=h.wm.tp b w hw;rw[(ld1_s wx.get).trans (show _=some (P0 w.tb)from rfl)];simp only[optK_s,P0,asP_s];have hht:=w.t.ht_lt;obtain⟨d',hd⟩:∃d',d+30=2+(w.t.ht+(2+d'))+1+1:=⟨d+24-w.t.ht,by omega⟩;obtain⟨sp,H1,e1,w1,k1,f1⟩:=lyPanes_s d' wx.gt wx.tl wx.tr (by omega);rw[show X (d+30) n_34 [.pointer (some ⟨w.tb,0,none⟩)] H=some (sp.v,H1)from by rw[hd];exact e1];simp only[callK_s,asSL_k];have h1:=h.new k1;have wx1:=h1.hW b w hw;rw[(ld1_s wx1.get).trans (show _=some (Value.int .i64 w.act)from rfl)];simp only[optK_s,asI_s];rw[show ap ⟨b,0,none⟩ 2=⟨b,2,none⟩from rfl,(ld1_s wx1.get).trans (show _=some (Value.bool w.zm)from rfl)];simp only[optK_s,asB_s];rw[(ld1_s wx1.get).trans (show _=some (P0 w.tb)from rfl)];simp only[optK_s,P0,asP_s];have hsz:=w.t.size_eq;obtain⟨hstr,est⟩:=AT.str_s (t:=w.t) tp5 (by omega);obtain⟨d2,hd2⟩:∃d2,d+30=d2+w.t.ht+5+1:=⟨d+24-w.t.ht,by omega⟩;have e2:=est d2 H1 w.tb wx1.gt wx1.tr;rw[show X (d+30) n_35 [.pointer (some ⟨w.tb,0,none⟩)] H1=some (.string (S w.t.str),H1)from by rw[hd2];exact e2];simp only[callK_s,asS_s,newK_s];have g71:=k1.get l7 g7;have hws1:=hws.keep k1 fun _ _ e=>e;obtain⟨ws2,H2,e3,w2,k2,k2',f2,c2⟩:=push_whole (H:=H1) (s:=ws) (cs:=L.flatMap twV) (e:=t_32) (sz:=4) (bytes:=56) (new:=twV (sp,w)) hws1 rfl (by omega) (by omega) (by omega);have kn:Keep0 H1 (H1.new (.cells (twV (sp,w)) t_32 false 0 false)):=Keep.new _ _;rw[show(.cells [sp.v,.int .i64 w.act,.bool w.zm,.string (S w.t.str)] t_32 false 0 false:CObj)=.cells (twV (sp,w)) t_32 false 0 false from rfl,e3];simp only[asSL_k];have m1':=k1.1;have g72:=(k2.2 p7 (by omega) fun e=>(hwa _ e).2.1 rfl).trans g71;rw[(st1_s (v:=ws2.v) g72 (by show 2<3;omega) (by omega)).trans (show _=some (H2.put p7 (.cells [.string (S se.nm),.int .i64 (se.cur:Int),ws2.v] t_35 false 0 false))from rfl)];simp only[optK_s];have kp:Keep (fun j=>j=p7) H2 (H2.put p7 (.cells [.string (S se.nm),.int .i64 (se.cur:Int),ws2.v] t_35 false 0 false)):=Keep.put _ _ _ rfl;have gp:(H2.put p7 (.cells [.string (S se.nm),.int .i64 (se.cur:Int),ws2.v] t_35 false 0 false)).get p7=some (.cells [.string (S se.nm),.int .i64 (se.cur:Int),ws2.v] t_35 false 0 false):=by simp
   generalize H2.put p7 (.cells [.string (S se.nm),.int .i64 (se.cur:Int),ws2.v] t_35 false 0 false)=H3 at*;have t0:∀Hx:Heap,Hx.get b=some (.cells [P0 w.tb,.int .i64 w.act,.bool w.zm] t_90 false 0 false)→readD (.load 1 false) [.pointer (some ⟨b,0,none⟩)] Hx=some (P0 w.tb):=fun Hx hh=>(ld1_s hh).trans rfl;have t1:∀Hx:Heap,Hx.get b=some (.cells [P0 w.tb,.int .i64 w.act,.bool w.zm] t_90 false 0 false)→readD (.load 1 false) [.pointer (some ⟨b,0+1,none⟩)] Hx=some (.int .i64 w.act):=fun Hx hh=>(ld1_s hh).trans rfl;have t2:∀Hx:Heap,Hx.get b=some (.cells [P0 w.tb,.int .i64 w.act,.bool w.zm] t_90 false 0 false)→readD (.load 1 false) [.pointer (some ⟨b,2,none⟩)] Hx=some (.bool w.zm):=fun Hx hh=>(ld1_s hh).trans rfl;have g7n:=kn.get (by omega) g71;rw[show rdsOk _ _=true from by simp only[rdsOk,Bool.and_true];rw[show 1+1-0=2 from rfl,show 1+2-0=3 from rfl,show 1+3-0=4 from rfl,rdOk_2,rdOk_3,rdOk_3,rdOk_4,rdAt_s rfl (t0 _ wx.get) (same_ptr _),rdAt_s rfl (t0 _ wx1.get) (same_ptr _),rdAt_s rfl (t2 _ wx.get) (same_bool _),rdAt_s rfl (t2 _ wx1.get) (same_bool _),rdAt_s rfl (t2 _ wx1.get) (same_bool _),rdAt_s rfl (t1 _ wx.get) (same_int _ _),rdAt_s rfl (t1 _ wx1.get) (same_int _ _),rdAt_s rfl (t1 _ wx1.get) (same_int _ _),rdAt_s rfl (t3 _ g7) (same_sl _ _ _),rdAt_s rfl (t3 _ g71) (same_sl _ _ _),rdAt_s rfl (t3 _ g71) (same_sl _ _ _),rdAt_s rfl (t3 _ g7n) (same_sl _ _ _)];rfl];simp only[chk_s];rw[wi (by omega)];have m2:=k2.1;have m3:=kp.1;have k03:Keep (fun j=>j=p7∨ws.at j) H H3:=((k1.to (S:=fun j=>j=p7∨ws.at j)).trans k2 fun _ _ e=>.inr e).trans kp fun _ _ e=>.inl e;have kk:Keep0 Hs H3:=k0.fresh k03 fun j e=>by
    rcases e with e|e
    ·omega
    ·exact(hwa j e).1
   have k12:Keep (fun j=>ws.at j∨j=p7) H1 H3:=(k2.mono (T:=fun j=>ws.at j∨j=p7) fun _ _ e=>.inl e).trans kp fun _ _ e=>.inr e;have hsplt:∀j,sp.at j→j<H1.next:=fun j e=>Whole.lt w1 e
   have hx3lt:∀j,x3.at j→j<H.next:=fun j e=>Whole.lt hw3 e
   obtain⟨y,T,H',e',a1,a2,a3,a4,a5⟩:=ih (k+1) H3 ws2 (L++[(sp,w)]) (by omega) (by omega) kk gp (by omega) (by
    rw[List.flatMap_append,List.flatMap_cons,List.flatMap_nil,List.append_nil];exact w2.keep kp fun j e e'=>by have e'':j=p7:=e';have:=f2 j e;omega) (by
    rw[List.map_append,hL,List.take_add_one,hb,List.map_append,Option.toList_some,List.map_cons,List.map_nil,List.map_cons,List.map_nil,hw]) (fun z hz=>by
    rcases List.mem_append.1 hz with hz|hz
    ·exact(hp z hz).keep k03 fun j e e'=>by
      obtain⟨q1,q2,q3,_⟩:=hLa z hz j e;rcases e' with e'|e'
      ·exact q2 e'
      ·exact q3 e'
    ·rw[List.mem_singleton.1 hz];exact w1.keep k12 fun j e e'=>by
      have:=f1 j e;rcases e' with e'|e'
      ·have:=Whole.lt hws e';omega
      ·have e'':j=p7:=e';omega) (fun j e=>by
    have:=f2 j e;exact⟨by have:=k0.1;omega,by omega,fun e'=>by have:=hx3lt j e';omega⟩) (fun z hz j e=>by
    rcases List.mem_append.1 hz with hz|hz
    ·obtain⟨q1,q2,q3,q4⟩:=hLa z hz j e;exact⟨q1,q2,fun e'=>by have:=f2 j e';have:=Whole.lt (hp z hz) e;omega,q4⟩
    ·rw[List.mem_singleton.1 hz]at e;have:=f1 j e;exact⟨by have:=k0.1;omega,by omega,fun e'=>by have:=f2 j e';have:=hsplt j e;omega,fun e'=>by have:=hx3lt j e';omega⟩) (hw3.keep k03 fun j e e'=>by
    rcases e' with e'|e'
    ·exact h37 (e'▸e)
    ·exact(hwa j e').2.2 e)
   refine⟨y,T,H',e',a1,a2,?_,fun j e=>⟨by have:=(a4 j e).1;omega,(a4 j e).2⟩,a5⟩;refine(k03.mono (T:=fun j=>x3.at j∨j=p7∨ws.at j) fun _ _ e=>.inr e).trans a3 fun j hj e=>?_;rcases e with e|e|e
   ·exact .inl e
   ·exact .inr (.inl e)
   ·have:=f2 j e;omega
  ·have hk':k=se.wbs.length:=by omega
   subst hk';rw[if_neg (show¬decide (((se.wbs.length:Nat):Int)<((se.wbs.length:Nat):Int))=true by simp)];rw[show ldA H ⟨p7,0,none⟩ 3=some (.agg ⟨[.string (S se.nm),.int .i64 (se.cur:Int),ws.v]⟩)by unfold ldA;rw[ldN_s g7 (by show 0+3≤3;omega)];rfl];simp only[optK_s,asA_s];rw[show fillL [(0,3)] [.agg ⟨[.string (S se.nm),.int .i64 (se.cur:Int),ws.v]⟩] [.string (S []),.int .i64 0,.slice none 0 0]=some [.string (S se.nm),.int .i64 (se.cur:Int),ws.v]from rfl];simp only[optK_s,newK_s];obtain⟨y,H5,e5,w5,k5,_,f5,c5⟩:=push_whole (H:=H) (s:=x3) (cs:=cs3) (e:=t_35) (sz:=3) (bytes:=48) (new:=[.string (S se.nm),.int .i64 (se.cur:Int),ws.v]) hw3 rfl (by omega) (by omega) (by omega);rw[e5];simp only[asSL_k];rw[wi (by omega)];rw[List.take_of_length_le (Nat.le_refl _)]at hL;have tok:Tds.ok ⟨se.nm,se.cur,ws,L⟩ H M se:=⟨hws,hp,rfl,rfl,hL⟩;refine⟨y,⟨se.nm,se.cur,ws,L⟩,H5,rfl,w5,tok.keep k5 fun j e e'=>?_,k5.mono fun _ _ e=>.inl e,fun j e=>⟨by have:=f5 j e;omega,fun e'=>by have:=f5 j e;have:=tok.lt e';omega⟩,fun j e=>?_⟩
   ·rcases e with e|⟨z,hz,e⟩
    ·exact(hwa j e).2.2 e'
    ·exact(hLa z hz j e).2.2.2 e'
   ·rcases e with e|⟨z,hz,e⟩
    ·exact(hwa j e).1
    ·exact(hLa z hz j e).1
theorem keys_p(d:Nat)(v:Value)(H:Heap):X (d+1) n_33 [v] H=keysP 81 72 [v] H:=by kernel_rfl
theorem sorted_p(d:Nat)(v:Value)(H:Heap):X (d+1) n_32 [v] H=sortedP 81 9 [v] H:=by kernel_rfl
theorem mapM_str{es:List (Value×Value×Nat)}:∀{ns:List W},es.map (·.1)=ns.map (fun n=>Value.string (S n))→es.mapM (fun e=>strV e.1)=some ns:=by
 induction es with
 |nil=>intro ns h;have:ns=[]:=by simpa using h.symm
       subst this;rfl
 |cons e es ih=>
  intro ns h;cases ns with
  |nil=>simp at h
  |cons n ns=>simp only[List.map_cons,List.cons.injEq]at h;rw[List.mapM_cons,h.1,ih h.2];rfl
theorem keysL_NS{es:List (Value×Value×Nat)}{clk:Nat}{ns:List W}(h1:es.map (·.1)=ns.map (fun n=>Value.string (S n)))(h2:(es.map (·.2.2)).Nodup)(h3:∀e∈es,e.2.2<clk)(h4:ns.Nodup)(h5:ns.length≤100)(h6:∀n∈ns,n.length≤100):keysL es clk=some ns:=by
 have hl:es.length=ns.length:=by have:=congrArg List.length h1;simpa using this
 unfold keysL;rw[mapM_str h1];simp only;rw[if_pos ⟨h4,h2,h3,by omega,fun k hk=>by have:=h6 k hk;omega⟩]
structure TdL(N:Nat)(H:Heap)(M:Md)(y:Sl)(T:List Tds):Prop where
 w:Whole H y (T.flatMap Tds.v) t_35 3
 t:∀x∈T,∃se∈M.ss,x.ok H M se
 ya:∀j,y.at j→N≤j∧∀x∈T,¬x.at j
 ta:∀x∈T,∀j,x.at j→N≤j
theorem sess_loop(d:Nat){Hs:Heap}{o:Ow}{M:Md}(h0:MxOk Hs o M){L:List W}(hL:L.length≤100)(hm:∀n∈L,n∈M.ss.map (·.nm)){b:Nat}(hbs:Hs.next≤b):
  ∀(m0 i:Nat) {H:Heap} {x3:Sl} {T:List Tds},L.length-i<m0→i≤L.length→Keep0 Hs H→(∃o st,H.get b=some (.cells (L.map fun n=>.string (S n)) 9 o 0 st))→b<H.next→
   TdL Hs.next H M x3 T→(∀j,x3.at j→j≠b)→T.map (·.nm)=L.take i→
   ∃y T' H',jj (d+30) m0 M.m x3 ⟨some ⟨b,0,none⟩,L.length,L.length⟩ (L.length:Int) (i:Int) H=some (y.v,H')∧TdL Hs.next H' M y T'∧T'.map (·.nm)=L∧Keep0 Hs H':=fun m0=>by
 induction m0 with
 |zero=>intro i H x3 T hi;omega
 |succ m0 ih=>
  intro i H x3 T hf hi k0 hb hbl ht hxb hn;rw[jj_s];have h:=h0.new k0;have hTl:T.length=i:=by have:=congrArg List.length hn;rw[List.length_map,List.length_take]at this;omega
  have hxn:x3.n=i:=by have:=(Whole.len ht.w).1;rw[fm_len Tds.v 3 Tds.v_len,hTl]at this;omega
  by_cases c:i<L.length
  ·rw[if_pos (show decide ((i:Int)<(L.length:Int))=true from decide_eq_true (by omega))];simp only[optK_s];obtain⟨ob,st,gb⟩:=hb;have hLi:L[i]?=some L[i]:=List.getElem?_eq_getElem c;have hLm:L[i]∈L:=List.getElem_mem c;generalize L[i]=n at hLi hLm;rw[if_pos (show(0:Int)≤(i:Int)∧(i:Int)<((L.length:Nat):Int)by omega),Int.toNat_natCast,Nat.mul_one,show ap ⟨b,0,none⟩ i=⟨b,i,none⟩by simp[ap],(ld1_s gb).trans (show _=some (Value.string (S n))by rw[List.getElem?_map,hLi];rfl)];simp only[optK_s,asS_s];rw[h.l2];simp only[optK_s,asM_s];obtain⟨se,hfs⟩:∃se,findS M.ss n=some se:=by
    cases e:findS M.ss n with
    |none=>exact absurd (hm n hLm) (findS_none.1 e)
    |some se=>exact⟨se,rfl⟩
   obtain⟨hse,hsn⟩:=findS_mem hfs;rw[h.lkSs hfs false];have sx:=h.hS se hse;simp only[lookV_f,optK_s,P0,asP_s,nilP_s,ap_0,ap_1];rw[(ld1_s sx.get).trans (show _=some (Value.int .i64 (se.cur:Int))from rfl)];simp only[optK_s,asI_s,newK_s];have k1:Keep0 H (H.new (.cells [.string (S []),.int .i64 0,.slice none 0 0] t_35 false 0 false)):=Keep.new _ _;have g1:(H.new (.cells [.string (S []),.int .i64 0,.slice none 0 0] t_35 false 0 false)).get H.next=some (.cells [.string (S []),.int .i64 0,.slice none 0 0] t_35 false 0 false):=by simp
   have n1:(H.new (.cells [.string (S []),.int .i64 0,.slice none 0 0] t_35 false 0 false)).next=H.next+1:=rfl
   generalize H.new (.cells [.string (S []),.int .i64 0,.slice none 0 0] t_35 false 0 false)=H1 at*;rw[show Heap.stN H1 ⟨H.next,0,none⟩ [.string (S n),.int .i64 (se.cur:Int),.slice none 0 0]=some (H1.put H.next (.cells [.string (S n),.int .i64 (se.cur:Int),.slice none 0 0] t_35 false 0 false))by simp only[Heap.stN,g1];rfl];simp only[optK_s];have k2:Keep0 H (H1.put H.next (.cells [.string (S n),.int .i64 (se.cur:Int),.slice none 0 0] t_35 false 0 false)):=k1.fresh (Keep.put (S:=fun k=>k=H.next) _ _ _ rfl) fun k e=>by have e':k=H.next:=e;omega
   have g2:(H1.put H.next (.cells [.string (S n),.int .i64 (se.cur:Int),.slice none 0 0] t_35 false 0 false)).get H.next=some (.cells [.string (S se.nm),.int .i64 (se.cur:Int),Sl.nil.v] t_35 false 0 false):=by rw[hsn];simp
   have n2:(H1.put H.next (.cells [.string (S n),.int .i64 (se.cur:Int),.slice none 0 0] t_35 false 0 false)).next=H1.next:=rfl
   generalize H1.put H.next (.cells [.string (S n),.int .i64 (se.cur:Int),.slice none 0 0] t_35 false 0 false)=H2 at*
   have sx2:=(h.new k2).hS se hse;rw[(ld1_s sx2.get).trans (show _=some (Value.slice (some ⟨se.wl,0,none⟩) se.wbs.length se.cap)from rfl)];simp only[optK_s,asSL_k2];obtain⟨u1,u2,u3,u4⟩:=h0.wm.wb se hse;have hx3lt:∀j,x3.at j→j<H.next:=fun j e=>Whole.lt ht.w e
   obtain⟨y,Tn,H',e',a1,a2,a3,a4,a5⟩:=wins_x d m0 h0 hse (p7:=H.next) (x3:=x3) (x15:=⟨some ⟨b,0,none⟩,L.length,L.length⟩) (x16:=(L.length:Int)) (i:=i) (by omega) (by omega) k0.1 (fun e=>by have:=hx3lt _ e;omega) NN 0 H2 Sl.nil [] (by rw[NN_eq];omega) (by omega) (k0.trans k2) g2 (by omega) (.inl ⟨rfl,rfl⟩) rfl (fun y hy=>by simp at hy) (fun j e=>absurd e Sl.at_nil) (fun y hy=>by simp at hy) (ht.w.keep k2 fun _ _ e=>e);rw[show(0:Int)=((0:Nat):Int)from rfl,e'];have kk:Keep (fun j=>x3.at j) H H':=⟨Nat.le_trans k2.1 a3.1,fun j hj hn=>(a3.2 j (Nat.lt_of_lt_of_le hj k2.1) fun e=>by
    rcases e with e|e|e
    ·exact hn e
    ·omega
    ·exact absurd e Sl.at_nil).trans (k2.2 j hj id)⟩
   have m2:=k2.1;refine ih (i+1) (x3:=y) (T:=T++[Tn]) (by omega) (by omega) (k0.fresh kk fun j e=>(ht.ya j e).1) ⟨ob,st,(kk.2 b hbl fun e=>hxb b e rfl).trans gb⟩ (Nat.lt_of_lt_of_le hbl kk.1) ⟨?_,fun x hx=>?_,fun j e=>⟨by have:=(a4 j e).1;have:=k0.1;omega,fun x hx=>?_⟩,fun x hx j e=>?_⟩ (fun j e=>by have:=(a4 j e).1;omega) ?_
   ·rw[List.flatMap_append,List.flatMap_cons,List.flatMap_nil,List.append_nil];exact a1
   ·rcases List.mem_append.1 hx with hx|hx
    ·obtain⟨s',hs',ok⟩:=ht.t x hx;exact⟨s',hs',ok.keep kk fun j e e'=>(ht.ya j e').2 x hx e⟩
    ·rw[List.mem_singleton.1 hx];exact⟨se,hse,a2⟩
   ·rcases List.mem_append.1 hx with hx|hx
    ·obtain⟨s',hs',ok⟩:=ht.t x hx;intro e';have:=ok.lt e';have:=(a4 j e).1;omega
    ·rw[List.mem_singleton.1 hx];exact(a4 j e).2
   ·rcases List.mem_append.1 hx with hx|hx
    ·exact ht.ta x hx j e
    ·rw[List.mem_singleton.1 hx]at e;exact a5 j e
   ·rw[List.map_append,hn,List.take_add_one,hLi,List.map_cons,List.map_nil,a2.nm,hsn];rfl
  ·rw[if_neg (show¬decide ((i:Int)<(L.length:Int))=true by rw[decide_eq_true_eq];omega)];refine⟨x3,T,H,rfl,ht,?_,k0⟩;rw[hn,List.take_of_length_le (by omega)]
theorem Sessions_x(d:Nat){H:Heap}{o:Ow}{M:Md}(h:MxOk H o M):∃y T H',X (d+31) n_11 [P0 M.m] H=some (y.v,H')∧TdL H.next H' M y T∧T.map (·.nm)=sortS (M.ss.map (·.nm))∧Keep0 H H':=by
 obtain⟨es,clk,gs,hes⟩:=h.gs;rw[mux_Mux_Sessions_eq,h.l2];simp only[optK_s,asM_s];rw[keys_p];simp only[keysP,callK_s];have k1:Keep0 H (H.new (.cells [.map (some M.sm)] 72 false 0 false)):=Keep.new _ _;have g1:(H.new (.cells [.map (some M.sm)] 72 false 0 false)).get H.next=some (.cells [.map (some M.sm)] 72 false 0 false):=by simp
 have n1:(H.new (.cells [.map (some M.sm)] 72 false 0 false)).next=H.next+1:=rfl
 generalize H.new (.cells [.map (some M.sm)] 72 false 0 false)=H1 at*;rw[sorted_p];have hsl:=h.wm.sl;have hkk:es.map (·.1)=(M.ss.map (·.nm)).map fun n=>Value.string (S n):=by rw[hes.k,List.map_map];rfl
 have hs:sortedP 81 9 [.func (.func 81) #[] #[.pointer (some ⟨H.next,0,none⟩)]] H1=if M.ss.map (·.nm)=[]then some (.slice none 0 0,H1)else some (.slice (some ⟨H1.next,0,none⟩) (M.ss.map (·.nm)).length (M.ss.map (·.nm)).length,H1.new (.cells ((sortS (M.ss.map (·.nm))).map fun k=>.string (S k)) 9 true 0 false)):=by
  simp only[sortedP,g1,k1.get h.ls gs,keysL_NS hkk hes.nd hes.lt h.wm.nn (show(M.ss.map (·.nm)).length≤100 by rw[List.length_map];omega) (fun n hn=>by obtain⟨s,hs,e⟩:=List.mem_map.1 hn;have:=h.wm.nl s hs;rw[←e];omega)];simp
 rw[hs];have hsl2:(sortS (M.ss.map (·.nm))).length=(M.ss.map (·.nm)).length:=(sortS_perm _).length_eq;obtain⟨f,hfu⟩:∃f,NN=f+1:=⟨NN-1,by rw[NN_eq]⟩;by_cases hz:M.ss.map (·.nm)=[]
 ·rw[if_pos hz];simp only[callK_s,asSL_k2];rw[hfu,jj_s,if_neg (by decide),hz];exact⟨Sl.nil,[],H1,rfl,⟨.inl ⟨rfl,rfl⟩,fun x hx=>by simp at hx,fun j e=>absurd e Sl.at_nil,fun x hx=>by simp at hx⟩,rfl,k1⟩
 ·rw[if_neg hz];simp only[callK_s,asSL_k2];have k2:Keep0 H1 (H1.new (.cells ((sortS (M.ss.map (·.nm))).map fun k=>.string (S k)) 9 true 0 false)):=Keep.new _ _;rw[←hsl2];exact sess_loop d h (by rw[hsl2,List.length_map];omega) (fun n hn=>(sortS_perm _).mem_iff.1 hn) (by omega) NN 0 (NN_big _ (by rw[hsl2,List.length_map];omega)) (by omega) (k1.trans k2) ⟨true,false,by simp⟩ (by simp) ⟨.inl ⟨rfl,rfl⟩,fun x hx=>absurd hx List.not_mem_nil,fun j e=>absurd e Sl.at_nil,fun x hx=>absurd hx List.not_mem_nil⟩ (fun j e=>absurd e Sl.at_nil) rfl
section
variable{H:Heap}{o:Ow}{M:Md}(h:MxOk H o M)
include h
end
theorem Pick_s(d:Nat)(n:Int)(m:Nat)(H:Heap)(hm:0<m)(hm2:m≤1048576):∃r:Nat,X (d+1) n_12 [.int .i64 n,.int .i64 (m:Int)] H=some (.int .i64 (r:Int),H)∧r<m:=by
 rw[hand_Pick_eq,if_neg (by omega)];have h1:=Int.tmod_lt_of_pos n (show(0:Int)<(m:Int)by omega);have h2: -(m:Int)<Int.tmod n m:=by have:=Int.lt_tmod_of_pos n (show(0:Int)<(m:Int)by omega);omega
 simp only[decide_eq_true_eq];by_cases h:Int.tmod n m<0
 ·rw[if_pos h,w64 (by omega)];exact⟨(Int.tmod n m+m).toNat,by rw[Int.toNat_of_nonneg (by omega)],by omega⟩
 ·rw[if_neg h];exact⟨(Int.tmod n m).toNat,by rw[Int.toNat_of_nonneg (by omega)],by omega⟩
def Ints(H:Heap)(x:Sl)(l:List Int):Prop:=x.n≤l.length∧∀(i:Nat) n,i<x.n→l[i]?=some n→∃b o,x.a=some ⟨b,o,none⟩∧b<H.next∧H.ld1 ⟨b,o+i,none⟩=some (.int .i64 n)
theorem wu8{n:Int}(h:0≤n∧n<256):IntKind.wrap .u8 n=n:=by unfold IntKind.wrap;simp only[IntKind.signed,IntKind.bits];simp;omega
theorem one_byte(H:Heap)(b:UInt8):readD .bytesStr [.slice (some ⟨H.next,0,none⟩) 1 1] (H.new (.cells [.int .u8 (b.toNat:Int)] t_5 false 0 false))=some (.string (S [b])):=by have w:Whole (H.new (.cells [.int .u8 (b.toNat:Int)] t_5 false 0 false)) ⟨some ⟨H.next,0,none⟩,1,1⟩ (bytes [b]) t_5 1:=.inr ⟨H.next,1,rfl,rfl,by simp,false,false,by simp;rfl⟩;exact(HV.of w).str
theorem Ints.new{H H':Heap}{x:Sl}{l:List Int}(h:Ints H x l)(k:Keep0 H H'):Ints H' x l:=⟨h.1,fun i n hi hn=>by obtain⟨b,o,h1,h2,h3⟩:=h.2 i n hi hn;refine⟨b,o,h1,Nat.lt_of_lt_of_le h2 k.1,?_⟩;have e:=k.2 b h2 id;unfold Heap.ld1 at h3⊢;simp only[e];exact h3⟩
theorem eq_cell(a b:Cl):eqL [.int .i32,.int .i64,.int .i64,.int .i64] (cellV a) (cellV b)=some (decide (a=b)):=by obtain⟨a1,a2,a3,a4⟩:=a;obtain⟨b1,b2,b3,b4⟩:=b;simp only[cellV,eqL,eqC];by_cases h1:a1=b1<;>by_cases h2:a2=b2<;>by_cases h3:a3=b3<;>by_cases h4:a4=b4<;>simp[h1,h2,h3,h4]
theorem if_len{α:Type}{a b:W}(h:a.length+b.length≤9223372036854775807)(x y:α):(if slen (S a)+slen (S b)≤9223372036854775807 then x else y)=x:=by rw[slenS,slenS,if_pos h]
theorem digs_len(n:Nat):(digs n).length≤2:=by unfold digs;split<;>simp
structure PTab(H:Heap):Prop where
 p:∃c e o z st,H.get 0=some (.cells c e o z st)∧∀i,i<34→∃w:W,w.length≤100∧c[i]?=some (.string (S w))
 m:∃c e o z st,H.get 1=some (.cells c e o z st)∧∀i,i<22→∃w:W,w.length≤100∧c[i]?=some (.string (S w))
 lt:1<H.next
theorem PTab.keep{S:Nat→Prop}{H H':Heap}(t:PTab H)(hk:Keep S H H')(h2:¬S 0)(h3:¬S 1):PTab H':=by obtain⟨⟨c,e,o,z,st,h,hc⟩,⟨c',e',o',z',st',h',hc'⟩,hl⟩:=t;exact⟨⟨c,e,o,z,st,(hk.2 0 (by omega) h2).trans h,hc⟩,⟨c',e',o',z',st',(hk.2 1 hl h3).trans h',hc'⟩,Nat.lt_of_lt_of_le hl hk.1⟩
theorem PTab.ldp{H:Heap}(t:PTab H){i:Nat}(hi:i<34):∃w:W,w.length≤100∧Heap.ld1 H ⟨0,0+((i:Int)).toNat*1,none⟩=some (.string (S w)):=by obtain⟨l,e,o,z,st,h,hc⟩:=t.p;obtain⟨w,h1,h2⟩:=hc i hi;exact⟨w,h1,by rw[show(0+((i:Int)).toNat*1:Nat)=i by simp,ld1_s h,h2]⟩
theorem PTab.ldm{H:Heap}(t:PTab H){i:Nat}(hi:i<22):∃w:W,w.length≤100∧Heap.ld1 H ⟨1,0+((i:Int)).toNat*1,none⟩=some (.string (S w)):=by obtain⟨l,e,o,z,st,h,hc⟩:=t.m;obtain⟨w,h1,h2⟩:=hc i hi;exact⟨w,h1,by rw[show(0+((i:Int)).toNat*1:Nat)=i by simp,ld1_s h,h2]⟩
theorem num1_s(d:Nat){n:Nat}(hn:n<10)(H:Heap):∃H',X (d+1) n_42 [.int .i64 (n:Int)] H=some (.string (S [UInt8.ofNat (48+n)]),H')∧Keep0 H H':=by
 rw[hand_number_eq,if_pos (show decide ((n:Int)<10)=true from decide_eq_true (by omega))];have hb:IntKind.wrap .u8 (IntKind.wrap .i64 (48+(n:Int)))=((UInt8.ofNat (48+n)).toNat:Int):=by rw[ofNat_toNat (by omega),w64 (by omega),wu8 (by omega)];omega
 rw[hb];simp only[newK_s];rw[one_byte];simp only[optK_s,asS_s];exact⟨_,rfl,Keep.new _ _⟩
theorem number_s(d:Nat){n:Nat}(hn:n<100)(H:Heap):∃H',X (d+2) n_42 [.int .i64 (n:Int)] H=some (.string (S (digs n)),H')∧Keep0 H H':=by
 unfold digs;by_cases h:n<10
 ·rw[if_pos h];exact num1_s (d+1) h H
 ·rw[if_neg h,hand_number_eq,if_neg (show¬decide ((n:Int)<10)=true from dneg (by omega))];have h1:IntKind.wrap .i64 (Int.tdiv (n:Int) 10)=((n/10:Nat):Int):=by rw[Int.tdiv_eq_ediv_of_nonneg (by omega),w64 (by omega)];omega
  have h2:Int.tmod (n:Int) 10=((n%10:Nat):Int):=by rw[Int.tmod_eq_emod_of_nonneg (by omega)];omega
  rw[h1,h2];obtain⟨H1,e1,k1⟩:=num1_s d (n:=n/10) (by omega) H;rw[e1];simp only[callK_s,asS_s];obtain⟨H2,e2,k2⟩:=num1_s d (n:=n%10) (by omega) H1;rw[e2];simp only[callK_s,asS_s];rw[slenS,slenS,if_pos (by simp),sCatS];exact⟨H2,rfl,k1.trans k2⟩
theorem output_loop(e:Nat){H0:Heap}(pt:PTab H0){x0:Sl}{l:List Int}(hx:Ints H0 x0 l){R:Nat}(hR:R≤90):∀(m i:Nat) {H:Heap} {s:W},81-i<m→i≤80→s.length≤200*i→Keep0 H0 H→
  ∃w H',j25 (e+2) m x0 (R:Int) (S s) (i:Int) H=some (.string (S w),H')∧w.length≤16000∧Keep0 H0 H':=fun m=>by
 induction m with
 |zero=>intro i H s hm;omega
 |succ m ih=>
  intro i H s hm hi hs k;have last:∃w H',j14 (e+2) m x0 (R:Int) (S s) (i:Int) false H=some (.string (S w),H')∧w.length≤16000∧Keep0 H0 H':=by rw[j14_eq,if_neg ff];exact⟨s,H,rfl,by omega,k⟩
  rw[j25_s];by_cases c0:(i:Int)<(x0.n:Int)
  ·rw[if_pos (show decide ((i:Int)<(x0.n:Int))=true from decide_eq_true c0)];by_cases c1:i<80
   ·rw[show decide ((i:Int)<80)=true from decide_eq_true (by omega),j14_eq,if_pos rfl];obtain⟨v,hv⟩:∃v,l[i]?=some v:=⟨l[i]'(by have:=hx.1;omega),List.getElem?_eq_getElem _⟩;obtain⟨b,o,ha,_,hl⟩:=(hx.new k).2 i v (by omega) hv;rw[ha];simp only[optK_s];rw[if_pos (show(0:Int)≤(i:Int)∧(i:Int)<(x0.n:Int)by omega),show ap ⟨b,o,none⟩ (((i:Int).toNat)*1)=⟨b,o+i,none⟩by simp[ap],hl];simp only[optK_s,asI_s];obtain⟨n,en,hn⟩:=Pick_s (e+1) v 64 H (by omega) (by omega);rw[show X (e+2) n_12 [.int .i64 v,.int .i64 64] H=_ from en];simp only[callK_s,asI_s];have next:∀{H1:Heap} {w:W},w.length≤200→Keep0 H0 H1→∃w' H',jh (e+2) m x0 (R:Int) (S (s++w)) (i:Int) H1=some (.string (S w'),H')∧w'.length≤16000∧Keep0 H0 H':=fun{H1 w} hw k1=>by rw[jh_eq,wi (by omega)];exact ih (i+1) (by omega) (by omega) (by rw[List.length_append];omega) k1
    have pt1:PTab H:=pt.keep k id id;by_cases n34:n<34
    ·rw[if_pos (show decide ((n:Int)<34)=true from decide_eq_true (by omega)),if_pos (show(0:Int)≤(n:Int)∧(n:Int)<34 by omega)];obtain⟨w,hw,el⟩:=pt1.ldp n34;rw[el];simp only[optK_s,asS_s];rw[if_len (a:=s) (b:=w) (by omega),sCatS];exact next (by omega) k
    rw[if_neg (show¬decide ((n:Int)<34)=true from dneg (by omega))];by_cases n56:n<56
    ·rw[if_pos (show decide ((n:Int)<56)=true from decide_eq_true (by omega)),show IntKind.wrap .i64 ((n:Int)-34)=((n-34:Nat):Int)by rw[w64 (by omega)];omega,if_pos (show(0:Int)≤((n-34:Nat):Int)∧((n-34:Nat):Int)<22 by omega)];obtain⟨w,hw,el⟩:=pt1.ldm (i:=n-34) (by omega);rw[el];simp only[optK_s,asS_s];rw[if_len (a:=s) (b:=w) (by omega),sCatS];exact next (by omega) k
    rw[if_neg (show¬decide ((n:Int)<56)=true from dneg (by omega))];by_cases n59:n<59
    ·rw[if_pos (show decide ((n:Int)<59)=true from decide_eq_true (by omega)),if_len (a:=s) (b:=[27,91]) (by simp;omega),sCatS];rw[show IntKind.wrap .i64 ((R:Int)+2)=((R+2:Nat):Int)by rw[w64 (by omega)];omega,show IntKind.wrap .i64 ((R:Int)+3)=((R+3:Nat):Int)by rw[w64 (by omega)];omega];obtain⟨p,e1,h1⟩:=Pick_s (e+1) (IntKind.wrap .i64 (Int.tdiv v 64)) (R+2) H (by omega) (by omega);rw[e1];simp only[callK_s,asI_s];obtain⟨H2,e2,k2⟩:=number_s e (n:=p) (by omega) H;have d1:=digs_len p;rw[e2];simp only[callK_s,asS_s];rw[if_len (a:=s++[27,91]) (b:=digs p) (by simp;omega),sCatS,if_len (a:=s++[27,91]++digs p) (b:=[59]) (by simp;omega),sCatS];obtain⟨q,e3,h3⟩:=Pick_s (e+1) (IntKind.wrap .i64 (Int.tdiv v 640)) (R+3) H2 (by omega) (by omega);rw[e3];simp only[callK_s,asI_s];obtain⟨H4,e4,k4⟩:=number_s e (n:=q) (by omega) H2;have d2:=digs_len q;rw[e4];simp only[callK_s,asS_s];rw[if_len (a:=s++[27,91]++digs p++[59]) (b:=digs q) (by simp;omega),sCatS,if_len (a:=s++[27,91]++digs p++[59]++digs q) (b:=[114]) (by simp;omega),sCatS];have:=next (H1:=H4) (w:=[27,91]++digs p++[59]++digs q++[114]) (by simp;omega) ((k.trans k2).trans k4)
     simpa using this
    rw[if_neg (show¬decide ((n:Int)<59)=true from dneg (by omega)),if_len (a:=s) (b:=[27,91]) (by simp;omega),sCatS];obtain⟨p,e1,h1⟩:=Pick_s (e+1) (IntKind.wrap .i64 (Int.tdiv v 64)) 12 H (by omega) (by omega);rw[show X (e+2) n_12 [.int .i64 (IntKind.wrap .i64 (Int.tdiv v 64)),.int .i64 12] H=_ from e1];simp only[callK_s,asI_s];obtain⟨H2,e2,k2⟩:=number_s e (n:=p) (by omega) H;have d1:=digs_len p;rw[e2];simp only[callK_s,asS_s];rw[if_len (a:=s++[27,91]) (b:=digs p) (by simp;omega),sCatS];obtain⟨q,e3,h3⟩:=Pick_s (e+1) (IntKind.wrap .i64 (Int.tdiv v 800)) 18 H2 (by omega) (by omega);rw[show X (e+2) n_12 [.int .i64 (IntKind.wrap .i64 (Int.tdiv v 800)),.int .i64 18] H2=_ from e3];simp only[callK_s,asI_s];generalize hL:([65,66,67,68,69,70,71,100,76,77,64,80,88,83,84,74,75,109]:W)=L;have hLl:L.length=18:=by rw[←hL];rfl
    have hc:L[q]?=some (L[q]'(by omega)):=List.getElem?_eq_getElem (by omega);generalize (L[q]'(by omega))=c at hc;rw[slenS,hLl,if_pos (show(0:Int)≤(q:Int)∧(q:Int)<((18:Nat):Int)by omega),Int.toNat_natCast,btS hc];simp only[newK_s];rw[one_byte];simp only[optK_s,asS_s];rw[if_len (a:=s++[27,91]++digs p) (b:=[c]) (by simp;omega),sCatS];have:=next (H1:=H2.new (.cells [.int .u8 (c.toNat:Int)] t_5 false 0 false)) (w:=[27,91]++digs p++[c]) (by simp;omega) ((k.trans k2).trans (Keep.new _ _))
    simpa using this
   ·rw[show decide ((i:Int)<80)=false from decide_eq_false (by omega)];exact last
  ·rw[if_neg (show¬decide ((i:Int)<(x0.n:Int))=true from dneg c0)];exact last
theorem Output_s(e:Nat){H:Heap}(pt:PTab H){x0:Sl}{l:List Int}(hx:Ints H x0 l){R:Nat}(hR:R≤90):∃w H',X (e+3) n_16 [x0.v,.int .i64 (R:Int)] H=some (.string (S w),H')∧w.length≤16000∧Keep0 H H':=by rw[hand_Output_eq];exact output_loop e pt hx hR NN 0 (s:=[]) (NN_big _ (by omega)) (by omega) (by simp) (Keep.refl _)
structure Lines(H:Heap)(L:List (List Cl))(y:Sl)(p:Q):Prop where
 o:Outer H y p
 r:Rows H p
 m:p.map Prod.snd=L
theorem Lines.keep{S:Nat→Prop}{H H':Heap}{L:List (List Cl)}{y:Sl}{p:Q}(h:Lines H L y p)(k:Keep S H H')(h2:∀k,y.at k→¬S k)(h3:∀k,bl p k→¬S k):Lines H' L y p:=⟨Whole.keep h.o k h2,h.r.keep k h3,h.m⟩
theorem Lines.new{H H':Heap}{L:List (List Cl)}{y:Sl}{p:Q}(h:Lines H L y p)(k:Keep0 H H'):Lines H' L y p:=h.keep k (fun _ _ e=>e) fun _ _ e=>e
theorem Lines.n{H:Heap}{L:List (List Cl)}{y:Sl}{p:Q}(h:Lines H L y p):y.n=L.length:=by rw[h.o.n,←h.m,List.length_map]
theorem Lines.row{H:Heap}{L:List (List Cl)}{y:Sl}{p:Q}(h:Lines H L y p){a:Nat}{l:List Cl}(ha:L[a]?=some l):∃ad x,y.a=some ad∧Heap.ld1 H (ap ad (((a:Int).toNat)*1))=some (wsl x l.length).v∧Row H x l:=by
 have h0:=congrArg (fun l=>l[a]?) h.m;simp only[List.getElem?_map]at h0;rw[ha]at h0;obtain⟨x,hx,hx2⟩:∃x,p[a]?=some x∧x.2=l:=by
  cases hpa:p[a]? with
  |none=>rw[hpa]at h0;cases h0
  |some x=>rw[hpa]at h0;exact⟨x,rfl,by simpa using h0⟩
 obtain⟨bb,v,_⟩:=Outer.ov h.o (h.o.some (by intro e;rw[e]at hx;cases hx));obtain⟨ad,ea,eb⟩:=v.ld hx;refine⟨ad,x.1,ea,?_,?_⟩
 ·rw[←hx2];exact eb
 ·rw[←hx2];exact h.r.1 x (List.mem_of_getElem? hx)
theorem same_cells(e:Nat){H:Heap}{L:List (List Cl)}{y1 y2:Sl}{p1 p2:Q}(s1:Lines H L y1 p1)(s2:Lines H L y2 p2){a:Nat}{l:List Cl}(ha:L[a]?=some l)(hl:l.length≤1000)(m0:Nat)(haL:L.length≤1000):
  ∀(m k:Nat),l.length-k<m→k≤l.length→j2n e m0 m y1 y2 (a:Int) (k:Int) H=j1c e m0 y1 y2 ((a+1:Nat):Int) H:=fun m=>by
 obtain⟨ad1,x1,q1,r1,w1⟩:=s1.row ha;obtain⟨ad2,x2,q2,r2,w2⟩:=s2.row ha;have n1:=s1.n;have n2:=s2.n;have hal:=(List.getElem?_eq_some_iff.1 ha).1;induction m with
 |zero=>intro k hm;omega
 |succ m ih=>
  intro k hm hk;rw[j2n_s,q1];simp only[optK_s];rw[if_pos (show(0:Int)≤(a:Int)∧(a:Int)<(y1.n:Int)by omega),r1];simp only[optK_s,asSL_k];by_cases hlt:k<l.length
  ·have hx:l[k]?=some l[k]:=List.getElem?_eq_getElem hlt;have g1:=w1.lda hx;have g2:=w2.lda hx;rw[if_pos (show decide ((k:Int)<((wsl x1 l.length).n:Int))=true from decide_eq_true (by show(k:Int)<(l.length:Int);omega))];rw[if_pos (show(0:Int)≤(a:Int)∧(a:Int)<(y1.n:Int)by omega)];rw[if_pos (show(0:Int)≤(k:Int)∧(k:Int)<(l.length:Int)by omega),show ap ⟨x1,0,none⟩ (((k:Int).toNat)*4)=⟨x1,k*4,none⟩by simp[ap],g1];simp only[optK_s,asA_s];rw[q2];simp only[optK_s];rw[if_pos (show(0:Int)≤(a:Int)∧(a:Int)<(y2.n:Int)by omega),r2];simp only[optK_s,asSL_k];rw[if_pos (show(0:Int)≤(k:Int)∧(k:Int)<(l.length:Int)by omega),show ap ⟨x2,0,none⟩ (((k:Int).toNat)*4)=⟨x2,k*4,none⟩by simp[ap],g2];simp only[optK_s,asA_s];rw[show(Array.size (⟨cellV l[k]⟩:Array Value)==4&&Array.size (⟨cellV l[k]⟩:Array Value)==4)=true from rfl];simp only[chk_s];rw[show eqL [.int .i32,.int .i64,.int .i64,.int .i64] (⟨cellV l[k]⟩:Array Value).toList (⟨cellV l[k]⟩:Array Value).toList=some (decide (l[k]=l[k]))from eq_cell _ _,decide_eq_true rfl];simp only[optK_s];rw[if_neg (show¬(!true)=true by simp),wi (by omega)];exact ih (k+1) (by omega) (by omega)
  ·rw[if_neg (show¬decide ((k:Int)<((wsl x1 l.length).n:Int))=true from dneg (by show¬(k:Int)<(l.length:Int);omega)),wi (by omega)]
theorem same_rows(e:Nat){H:Heap}{L:List (List Cl)}{y1 y2:Sl}{p1 p2:Q}(s1:Lines H L y1 p1)(s2:Lines H L y2 p2)(haL:L.length≤1000)(hL:∀l∈L,l.length≤1000):
  ∀(m a:Nat),L.length-a<m→a≤L.length→j1c e m y1 y2 (a:Int) H=some (.bool true,H):=fun m=>by
 have n1:=s1.n;have n2:=s2.n;induction m with
 |zero=>intro a hm;omega
 |succ m ih=>
  intro a hm ha;rw[j1c_s];by_cases hlt:a<L.length
  ·have hx:L[a]?=some L[a]:=List.getElem?_eq_getElem hlt;have hl:=hL _ (List.getElem_mem hlt);obtain⟨ad1,x1,q1,r1,w1⟩:=s1.row hx;obtain⟨ad2,x2,q2,r2,w2⟩:=s2.row hx;rw[if_pos (show decide ((a:Int)<(y1.n:Int))=true from decide_eq_true (by omega)),q1];simp only[optK_s];rw[if_pos (show(0:Int)≤(a:Int)∧(a:Int)<(y1.n:Int)by omega),r1];simp only[optK_s,asSL_k];rw[q2];simp only[optK_s];rw[if_pos (show(0:Int)≤(a:Int)∧(a:Int)<(y2.n:Int)by omega),r2];simp only[optK_s,asSL_k];rw[if_neg (show¬(!decide True)=true by simp),show(0:Int)=((0:Nat):Int)from rfl,same_cells e s1 s2 hx hl m haL NN 0 (NN_big _ (by omega)) (by omega)];exact ih (a+1) (by omega) (by omega)
  ·rw[if_neg (show¬decide ((a:Int)<(y1.n:Int))=true from dneg (by omega))]
theorem SameLines_s(e:Nat){H:Heap}{L:List (List Cl)}{y1 y2:Sl}{p1 p2:Q}(s1:Lines H L y1 p1)(s2:Lines H L y2 p2)(haL:L.length≤1000)(hL:∀l∈L,l.length≤1000):X (e+1) n_43 [y1.v,y2.v] H=some (.bool true,H):=by have n1:=s1.n;have n2:=s2.n;rw[ref19_SameLines_eq,if_neg (show¬(!decide ((y1.n:Int)=(y2.n:Int)))=true by rw[n1,n2];simp)];exact same_rows e s1 s2 haL hL NN 0 (NN_big _ (by omega)) (by omega)
structure Lw(H0 H:Heap)(o:Ow)(M:Md):Prop where
 ok:MxOk H o M
 k0:Keep0 H0 H
 z0:∀j,j<H0.next→o j=.z
theorem Lw.new{H0 H H':Heap}{o:Ow}{M:Md}(h:Lw H0 H o M)(k:Keep0 H H'):Lw H0 H' o M:=⟨h.ok.new k,h.k0.trans k,h.z0⟩
theorem Lw.step{H0 H H':Heap}{o o':Ow}{M M':Md}(h:Lw H0 H o M)(ok:MxOk H' o' M')(s:St H o H' o'):Lw H0 H' o' M':=⟨ok,⟨Nat.le_trans h.k0.1 s.kp.1,fun k hk _=>(s.kp.2 k (Nat.lt_of_lt_of_le hk h.k0.1) fun e=>e (h.z0 k hk)).trans (h.k0.2 k hk id)⟩,fun j hj=>(s.ex j (Nat.lt_of_lt_of_le hj h.k0.1)).trans (h.z0 j hj)⟩
theorem St.own{H H':Heap}{o o':Ow}(s:St H o H' o'){b:Nat}{c:CObj}(hb:b<H.next)(hz:o b=.z)(hg:H.get b=some c):H'.get b=some c∧b<H'.next∧o' b=.z:=
 ⟨(s.kp.2 b hb fun e=>e hz).trans hg,Nat.lt_of_lt_of_le hb s.kp.1,(s.ex b hb).trans hz⟩
theorem known_x(d:Nat)(H:Heap):X (d+1) n_8 [] H=some (.bool true,H):=by kernel_rfl
theorem first_told{N:Nat}{H:Heap}{M:Md}{y:Sl}{T:List Tds}(ht:TdL N H M y T)(hm:Wm M){n0:W}{rest:List W}(hn:T.map (·.nm)=n0::rest){se:Sn}(hs:findS M.ss n0=some se){b:Nat}{bs:List Nat}(hb:se.wbs=b::bs){w:Wn}(hw:M.W b=some w):
  ∃bT bW sp sl,y.a=some ⟨bT,0,none⟩∧0<y.n∧y.n=T.length∧Heap.ld1 H (ap (ap ⟨bT,0,none⟩ 0) 2)=some (Sl.v sl)∧sl.a=some ⟨bW,0,none⟩∧0<sl.n∧ldA H (ap ⟨bW,0,none⟩ 0) 4=some (.agg ⟨twV (sp,w)⟩)∧Heap.ld1 H (ap (ap ⟨bW,0,none⟩ 0) 0)=some (Sl.v sp)∧Heap.ld1 H (ap (ap ⟨bW,0,none⟩ 0) 2)=some (.bool w.zm)∧Whole H sp (w.t.panes.map (.int .i64)) t_3 1:=by
 cases T with
 |nil=>simp at hn
 |cons t0 T=>
  simp only[List.map_cons,List.cons.injEq]at hn;obtain⟨se',hse',ok⟩:=ht.t t0 List.mem_cons_self;have e1:se'=se:=by have h1:=findS_some hm.nn hse' (n:=n0) (by rw[←ok.nm,hn.1]);rw[hs]at h1;exact(Option.some.inj h1).symm
  subst e1;have hL:=ok.wn;rw[hb,List.map_cons,hw]at hL;obtain⟨z,L',hzL,hz2⟩:∃z L',t0.L=z::L'∧z.2=w:=by
   cases h:t0.L with
   |nil=>rw[h]at hL;simp at hL
   |cons z L'=>rw[h,List.map_cons]at hL;exact⟨z,L',rfl,by simpa using (List.cons.inj hL).1⟩
  obtain⟨sp,w'⟩:=z;simp only at hz2;subst hz2;have hyn:y.n=(t0::T).length:=by have:=(Whole.len ht.w).1;rw[fm_len Tds.v 3 Tds.v_len]at this;omega
  have hyne:y.a≠none:=by
   rcases ht.w with ⟨h1,h2⟩|⟨b,q,h1,_⟩
   ·rw[h1]at hyn;simp at hyn
   ·rw[h1];simp
  obtain⟨bT,vT,_⟩:=Vw.of ht.w hyne;have hsn:t0.sl.n=t0.L.length:=by have:=(Whole.len ok.w).1;rw[fm_len twV 4 twV_len]at this;omega
  have hsne:t0.sl.a≠none:=by
   rcases ok.w with ⟨h1,h2⟩|⟨b,q,h1,_⟩
   ·rw[h1,hzL]at hsn;simp at hsn
   ·rw[h1];simp
  obtain⟨bW,vW,_⟩:=Vw.of ok.w hsne;obtain⟨aT,_,_,_,oT,sT,gT⟩:=vT;obtain⟨aW,_,_,_,oW,sW,gW⟩:=vW;rw[List.nil_append,List.append_nil,List.flatMap_cons]at gT;rw[List.nil_append,List.append_nil,hzL,List.flatMap_cons]at gW;refine⟨bT,bW,sp,t0.sl,aT,by rw[hyn];simp,hyn,?_,aW,by rw[hsn,hzL];simp,?_,?_,?_,ok.p (sp,w') (by rw[hzL];exact List.mem_cons_self)⟩
  ·rw[show ap (ap ⟨bT,0,none⟩ 0) 2=⟨bT,2,none⟩from rfl,ld1_s gT];rfl
  ·unfold ldA;rw[show ap ⟨bW,0,none⟩ 0=⟨bW,0,none⟩from rfl,ldN_s gW (by simp[twV_len]),List.drop_zero,List.take_left' (twV_len _)]
  ·rw[show ap (ap ⟨bW,0,none⟩ 0) 0=⟨bW,0,none⟩from rfl,ld1_s gW];rfl
  ·rw[show ap (ap ⟨bW,0,none⟩ 0) 2=⟨bW,2,none⟩from rfl,ld1_s gW];rfl
theorem Same_v(e:Nat){H:Heap}{v u:VP}(hv:v=u){y1 y2:Sl}{p1 p2:Q}(s1:Lines H v.L y1 p1)(s2:Lines H u.L y2 p2)(haL:v.L.length≤1000)(hL:∀l∈v.L,l.length≤1000):∃H',X (e+2) n_17 [.agg ⟨v.l y1⟩,.agg ⟨u.l y2⟩] H=some (.bool true,H')∧Keep0 H H':=by
 rw[ref19_Same_eq,show∀K,effK (.box t_42) [.agg ⟨v.l y1⟩] H K=K (P0 H.next) (H.new (.cells (v.l y1) t_42 false 0 false))from fun K=>ly_box rfl];have k2:Keep0 H (H.new (.cells (v.l y1) t_42 false 0 false)):=Keep.new _ _;have g2:(H.new (.cells (v.l y1) t_42 false 0 false)).get H.next=some (.cells (v.l y1) t_42 false 0 false):=by simp
 have n2:(H.new (.cells (v.l y1) t_42 false 0 false)).next=H.next+1:=rfl
 generalize H.new (.cells (v.l y1) t_42 false 0 false)=H2 at*;rw[show∀K,effK (.box t_42) [.agg ⟨u.l y2⟩] H2 K=K (P0 H2.next) (H2.new (.cells (u.l y2) t_42 false 0 false))from fun K=>ly_box rfl];have k4:Keep0 H2 (H2.new (.cells (u.l y2) t_42 false 0 false)):=Keep.new _ _;have g4:(H2.new (.cells (u.l y2) t_42 false 0 false)).get H2.next=some (.cells (u.l y2) t_42 false 0 false):=by simp
 generalize H2.new (.cells (u.l y2) t_42 false 0 false)=H4 at*;have g4a:=k4.get (by omega) g2;simp only[P0,asP_s,optK_s];have a0:Heap.ld1 H4 (ap ⟨H.next,0,none⟩ 0)=some (.int .i64 v.rows):=(ld1_s g4a).trans rfl;have b0:Heap.ld1 H4 (ap ⟨H2.next,0,none⟩ 0)=some (.int .i64 u.rows):=(ld1_s g4).trans rfl;have a1:Heap.ld1 H4 (ap ⟨H.next,0,none⟩ 1)=some (.int .i64 v.cols):=(ld1_s g4a).trans rfl;have b1:Heap.ld1 H4 (ap ⟨H2.next,0,none⟩ 1)=some (.int .i64 u.cols):=(ld1_s g4).trans rfl;have a2:Heap.ld1 H4 (ap ⟨H.next,0,none⟩ 2)=some y1.v:=(ld1_s g4a).trans rfl;have b2:Heap.ld1 H4 (ap ⟨H2.next,0,none⟩ 2)=some y2.v:=(ld1_s g4).trans rfl;have a3:Heap.ld1 H4 (ap ⟨H.next,0,none⟩ 3)=some (.int .i64 v.r):=(ld1_s g4a).trans rfl;have b3:Heap.ld1 H4 (ap ⟨H2.next,0,none⟩ 3)=some (.int .i64 u.r):=(ld1_s g4).trans rfl;have a4:Heap.ld1 H4 (ap ⟨H.next,0,none⟩ 4)=some (.int .i64 v.c):=(ld1_s g4a).trans rfl;have b4:Heap.ld1 H4 (ap ⟨H2.next,0,none⟩ 4)=some (.int .i64 u.c):=(ld1_s g4).trans rfl;have a5:Heap.ld1 H4 (ap ⟨H.next,0,none⟩ 5)=some (.bool v.h):=(ld1_s g4a).trans rfl;have b5:Heap.ld1 H4 (ap ⟨H2.next,0,none⟩ 5)=some (.bool u.h):=(ld1_s g4).trans rfl;rw[a0,b0];simp only[optK_s,asI_s];rw[if_pos (show decide ((v.rows:Int)=(u.rows:Int))=true from decide_eq_true (by rw[hv])),a1,b1];simp only[optK_s,asI_s];rw[if_pos (show decide ((v.cols:Int)=(u.cols:Int))=true from decide_eq_true (by rw[hv])),a3,b3];simp only[optK_s,asI_s];rw[if_pos (show decide (v.r=u.r)=true from decide_eq_true (by rw[hv])),a4,b4];simp only[optK_s,asI_s];rw[if_pos (show decide (v.c=u.c)=true from decide_eq_true (by rw[hv])),a5,b5];simp only[optK_s,asB_s];rw[if_pos (show(v.h==u.h)=true by rw[hv];simp),a2];simp only[optK_s,asSL_k];rw[b2];simp only[optK_s,asSL_k];have k:=k2.trans k4;rw[SameLines_s e (s1.new k) ((by rw[hv];exact s2:Lines H v.L y2 p2).new k) haL hL];exact⟨H4,rfl,k⟩
structure One(M:Md)(R C:Nat)(s wl b:Nat)(w:Wn):Prop where
 R:M.rows=R
 C:M.cols=C
 ss:M.ss=[⟨[97],s,wl,1,[b],0⟩]
 W:M.W b=some w
theorem One.cur{M:Md}{R C s wl b:Nat}{w:Wn}(h:One M R C s wl b w)(hm:Wm M):cur M [97] ⟨[97],s,wl,1,[b],0⟩ b w:=by
 have hf:findS M.ss [97]=some ⟨[97],s,wl,1,[b],0⟩:=by rw[h.ss];rfl
 refine⟨hf,rfl,h.W,?_⟩;obtain⟨_,_,_,a4⟩:=hm.wb _ (findS_mem hf).1;obtain⟨v,v1,v2⟩:=a4 b (by simp);rw[h.W]at v1;cases v1;exact v2
theorem One.names{M:Md}{R C s wl b:Nat}{w:Wn}(h:One M R C s wl b w):sortS (M.ss.map (·.nm))=[[97]]:=by rw[h.ss];rfl
theorem right_a:rightB [97]=true:=by decide
theorem start_a(d:Nat){H0:Heap}(t:Tab H0){R C:Nat}(hR:1≤R∧R≤60)(hC:1≤C∧C≤90):∃m H1 H2 o M s wl b w,X (d+43) n_7 [.int .i64 (R:Int),.int .i64 (C:Int)] H0=some (.tuple ⟨[P0 m,.int .i64 0]⟩,H1)∧X (d+43) n_9 [P0 m,.string (S [97])] H1=some (.int .i64 0,H2)∧M.m=m∧Lw H0 H2 o M∧One M R C s wl b w∧M.next=1∧w.zm=false:=by
 obtain⟨m,sm,pm,H1,o1,e1,h1,k1,z1⟩:=New_x (d+35) t hR hC;have hf:findS ([]:List Sn) [97]=none:=rfl;obtain⟨s,wl,b,tb,nd,x,H2,o2,e2,h2,x1,x2,s2,hb⟩:=NewSession_x d h1 (by show 0<100;omega) (nm:=[97]) (by simp) (by unfold newE;rw[right_a];rfl);exact⟨m,H1,H2,o2,_,s,wl,b,_,e1,e2,rfl,Lw.step ⟨h1,k1,z1⟩ h2 s2,⟨rfl,rfl,rfl,updN_same _ _ _⟩,rfl,rfl⟩
def Bools(H:Heap)(x:Sl)(l:List Bool):Prop:=x.n≤l.length∧∀(i:Nat) n,i<x.n→l[i]?=some n→∃b o,x.a=some ⟨b,o,none⟩∧b<H.next∧H.ld1 ⟨b,o+i,none⟩=some (.bool n)
theorem Bools.new{H H':Heap}{x:Sl}{l:List Bool}(h:Bools H x l)(k:Keep0 H H'):Bools H' x l:=⟨h.1,fun i n hi hn=>by obtain⟨b,o,h1,h2,h3⟩:=h.2 i n hi hn;refine⟨b,o,h1,Nat.lt_of_lt_of_le h2 k.1,?_⟩;have e:=k.2 b h2 id;unfold Heap.ld1 at h3⊢;simp only[e];exact h3⟩
theorem Bools.ld{H:Heap}{x:Sl}{l:List Bool}(h:Bools H x l){i:Nat}(hi:i<x.n):∃a c,x.a=some a∧Heap.ld1 H (ap a (((i:Int).toNat)*1))=some (.bool c):=by have hl:=h.1;obtain⟨b,o,h1,_,h3⟩:=h.2 i l[i] hi (List.getElem?_eq_getElem (by omega));exact⟨_,l[i],h1,by rw[show ap ⟨b,o,none⟩ (((i:Int).toNat)*1)=⟨b,o+i,none⟩by simp[ap]];exact h3⟩
theorem One.split(d:Nat){H0 H:Heap}{o:Ow}{M:Md}{R C s wl b:Nat}{w:Wn}(h:Lw H0 H o M)(one:One M R C s wl b w)(hn:M.next<100)(hz:w.zm=false)(ac:Bool):∃e H' o' M' w',X (d+42) n_10 [P0 M.m,.string (S [97]),.bool ac] H=some (.int .i64 e,H')∧Lw H0 H' o' M'∧One M' R C s wl b w'∧M'.m=M.m∧M'.next≤M.next+1∧w'.zm=false:=by
 rcases Split_x h.ok d hn (one.cur h.ok.wm) ac with ⟨hs,H',e',k'⟩|⟨hs,n1,n2,x,H',o',P',e',h',s',_,_,_,_⟩
 ·exact⟨_,H',o,M,w,e',h.new k',one,rfl,by omega,hz⟩
 ·exact⟨_,H',o',_,_,e',h.step h' s',⟨one.R,one.C,one.ss,updN_same _ _ _⟩,rfl,Nat.le_refl _,rfl⟩
theorem cast_screen(a:Array Value)(n:Int)(b:Bool)(K:List Value→Res):castT [.agg,.int .i64,.bool] (.tuple #[.agg a,.int .i64 n,.bool b]) K=K [.agg a,.int .i64 n,.bool b]:=by simp only[castT_s,castL_c,castL_n,cast0,asA_s,asI_s,asB_s]
theorem cast_view(a:Array Value)(b:Bool)(K:List Value→Res):castT [.agg,.bool] (.tuple #[.agg a,.bool b]) K=K [.agg a,.bool b]:=by simp only[castT_s,castL_c,castL_n,cast0,asA_s,asI_s,asB_s]
theorem VP.l_len(v:VP)(y:Sl):(v.l y).length=6:=rfl
theorem VP.l_one(v:VP)(y:Sl):(v.l y).all one=true:=rfl
theorem put_screen_k(H:Heap)(l:List Value):Keep0 H ((H.new (.cells [.int .i64 0,.int .i64 0,.slice none 0 0,.int .i64 0,.int .i64 0,.bool false] t_42 false 0 false)).put H.next (.cells l t_42 false 0 false))∧((H.new (.cells [.int .i64 0,.int .i64 0,.slice none 0 0,.int .i64 0,.int .i64 0,.bool false] t_42 false 0 false)).put H.next (.cells l t_42 false 0 false)).get H.next=some (.cells l t_42 false 0 false)∧
 ((H.new (.cells [.int .i64 0,.int .i64 0,.slice none 0 0,.int .i64 0,.int .i64 0,.bool false] t_42 false 0 false)).put H.next (.cells l t_42 false 0 false)).next=H.next+1:=
 ⟨(Keep.new _ _:Keep0 H _).fresh (Keep.put (S:=fun k=>k=H.next) _ _ _ rfl) fun k e=>by have e':k=H.next:=e;omega,by simp,rfl⟩
theorem put_screen2{H:Heap}{l:List Value}(hl:l.length=6)(h1:l.all one=true)(K:Value→Heap→Res):effK (.store 6) [P0 H.next,.agg ⟨l⟩] (H.new (.cells [.int .i64 0,.int .i64 0,.slice none 0 0,.int .i64 0,.int .i64 0,.bool false] t_42 false 0 false)) K=K (.tuple #[]) ((H.new (.cells [.int .i64 0,.int .i64 0,.slice none 0 0,.int .i64 0,.int .i64 0,.bool false] t_42 false 0 false)).put H.next (.cells l t_42 false 0 false)):=st6 (K:=K) (Heap.get_new_same _ _) rfl hl h1
def VP0:VP:=⟨0,0,[],0,0,false⟩
def paneV(M:Md)(k:Int):VP:=match M.P k with
 |none=>VP0
 |some x=>x.q.g.vp
theorem Pane_any(d:Nat){H:Heap}{o:Ow}{M:Md}(h:MxOk H o M)(k:Int):
  ∃H' y q n b,X (d+4) n_13 [P0 M.m,.int .i64 k] H=some (.tuple #[.agg ⟨(paneV M k).l y⟩,.int .i64 n,.bool b],H')∧Lines H' (paneV M k).L y q∧(∀j,y.at j→H.next≤j)∧(∀j,bl q j→H.next≤j)∧Keep0 H H':=by
 cases e:M.P k with
 |none=>
  obtain⟨H',e',k'⟩:=Pane_n h (d+3) e;refine⟨H',Sl.nil,[],0,false,?_,?_,fun j e=>absurd e Sl.at_nil,fun j e=>absurd e bl_nil,k'⟩
  ·rw[show paneV M k=VP0 by unfold paneV;rw[e]];exact e'
  ·rw[show paneV M k=VP0 by unfold paneV;rw[e]];exact⟨.inl ⟨rfl,rfl⟩,⟨fun x hx=>by simp at hx,by simp⟩,rfl⟩
 |some x=>
  obtain⟨H',y,q,e',v,k'⟩:=Pane_x h d e;have hv:paneV M k=x.q.g.vp:=by unfold paneV;rw[e]
  exact⟨H',y,q,_,true,by rw[hv];exact e',by rw[hv];exact⟨v.o,v.r,v.m⟩,v.fy,v.fq,k'⟩
theorem paneV_le{H:Heap}{o:Ow}{M:Md}(h:MxOk H o M)(k:Int):(paneV M k).L.length≤1000∧∀l∈(paneV M k).L,l.length≤1000:=by
 unfold paneV;cases e:M.P k with
 |none=>exact⟨Nat.zero_le _,fun l hl=>by simp[VP0]at hl⟩
 |some x=>have wf:=(h.hP k x e).gr.wf;have:=wf.r2;have:=wf.c2;exact⟨by show x.q.g.L.length≤1000;rw[wf.Ln];omega,fun l hl=>by have:=wf.Lw l hl;omega⟩
theorem paintP_wid(R C:Nat)(r:Rc)(SR SC:Nat)(SL V:List (List Cl))(hV:V.length=R∧∀l∈V,l.length=C)(hSL:∀l∈SL,l.length=SC)(hS:SL.length=SR)(hr:r.ok):(paintP R C r SR SC SL V).length=R∧∀l∈paintP R C r SR SC SL V,l.length=C:=by
 unfold paintP;generalize hn:(min r.rows (SR:Int)).toNat=n;have hle:n≤SL.length:=by rw[hS];omega
 clear hn;induction n with
 |zero=>exact hV
 |succ n ih=>
  rw[List.range_succ,List.foldl_append,List.foldl_cons,List.foldl_nil];obtain⟨i1,i2⟩:=ih (by omega);generalize (List.range n).foldl (paintRow R C r SC SL) V=V' at i1 i2;unfold paintRow;split
  ·rename_i hc;refine⟨by rw[List.length_modify];exact i1,fun l hl=>?_⟩;obtain⟨j,hj,e⟩:=List.getElem_of_mem hl;rw[List.getElem_modify]at e;rw[List.length_modify]at hj;have hlj:=i2 _ (List.getElem_mem hj);split at e
   ·rw[←e,putAt_len]
    ·exact hlj
    ·rw[hlj,List.length_take];obtain⟨o1,o2,o3,o4,_,_⟩:=hr;unfold paintN;omega
   ·rw[←e];exact hlj
  ·exact⟨i1,i2⟩
theorem lineP_wid{R C:Nat}(V:List (List Cl))(x:Rc×Bool)(hV:V.length=R∧∀l∈V,l.length=C):(lineP V x).length=R∧∀l∈lineP V x,l.length=C:=by
 have cell:∀(i j:Nat) (V:List (List Cl)),(V.length=R∧∀l∈V,l.length=C)→((lineCell x.1 x.2 i V j).length=R∧∀l∈lineCell x.1 x.2 i V j,l.length=C):=fun i j V h=>by
  unfold lineCell;refine⟨by rw[List.length_modify];exact h.1,fun l hl=>?_⟩;obtain⟨k,hk,e⟩:=List.getElem_of_mem hl;rw[List.getElem_modify]at e;rw[List.length_modify]at hk;have hlk:=h.2 _ (List.getElem_mem hk);split at e
  ·rw[←e,List.length_set];exact hlk
  ·rw[←e];exact hlk
 have fold:∀{α:Type} (f:List (List Cl)→α→List (List Cl)),(∀V a,(V.length=R∧∀l∈V,l.length=C)→((f V a).length=R∧∀l∈f V a,l.length=C))→∀(l:List α) (V:List (List Cl)),(V.length=R∧∀l∈V,l.length=C)→((l.foldl f V).length=R∧∀m∈l.foldl f V,m.length=C):=fun f hf l=>by
  induction l with
  |nil=>exact fun V h=>h
  |cons a l ih=>exact fun V h=>ih _ (hf V a h)
 unfold lineP;exact fold _ (fun V i h=>fold _ (fun V j h=>cell i j V h) _ _ h) _ _ hV
theorem viewU_wid{H:Heap}{o:Ow}{M:Md}(h:MxOk H o M){b:Nat}{w:Wn}(hw:M.W b=some w):(viewU M w).L.length=M.rows∧∀l∈(viewU M w).L,l.length=M.cols:=by
 have hwin:(winRc M.rows M.cols).ok:=winRc_ok ⟨by have:=h.wm.r;omega,by have:=h.wm.c;omega⟩;have step:∀(l:List (Int×Rc)) (v:VP),(∀e∈l,e.2.ok)→v.rows=M.rows→v.cols=M.cols→(v.L.length=M.rows∧∀l∈v.L,l.length=M.cols)→((l.foldl (viewStep M w.act) v).L.length=M.rows∧∀m∈(l.foldl (viewStep M w.act) v).L,m.length=M.cols):=fun l=>by
  induction l with
  |nil=>exact fun v _ _ _ h=>h
  |cons e l ih=>
   intro v ho hr hc hv;have hs:=viewStep_size M w.act v e;refine ih _ (fun e he=>ho e (List.mem_cons_of_mem _ he)) (hs.1.trans hr) (hs.2.trans hc) ?_;unfold viewStep;cases hx:M.P e.1 with
   |none=>exact hv
   |some x=>have wf:=(h.hP _ x hx).gr.wf;have:=paintP_wid M.rows M.cols e.2 x.q.g.c.rows x.q.g.c.cols x.q.g.L v.L hv wf.Lw wf.Ln (ho e List.mem_cons_self);simp only[hr,hc];split<;>exact this
 have hz:∀e∈w.t.panes.zip (w.t.places (winRc M.rows M.cols)),e.2.ok:=fun e he=>(w.t.places_ok hwin e.2 (List.of_mem_zip he).2).1;have h1:=step _ (blankV M.rows M.cols) hz rfl rfl ⟨by simp[blankV],fun l hl=>by simp only[blankV]at hl;rw[(List.mem_replicate.1 hl).2,List.length_replicate]⟩;unfold viewU;simp only;generalize (w.t.panes.zip (w.t.places (winRc M.rows M.cols))).foldl (viewStep M w.act) (blankV M.rows M.cols)=v at h1;have fold:∀(l:List (Rc×Bool)) (V:List (List Cl)),(V.length=M.rows∧∀l∈V,l.length=M.cols)→((l.foldl lineP V).length=M.rows∧∀m∈l.foldl lineP V,m.length=M.cols):=fun l=>by
  induction l with
  |nil=>exact fun V h=>h
  |cons a l ih=>exact fun V h=>ih _ (lineP_wid V a h)
 exact fold _ _ h1
theorem viewP_le{H:Heap}{o:Ow}{M:Md}(h:MxOk H o M){b:Nat}{w:Wn}(hw:M.W b=some w):(viewP M w).L.length≤1000∧∀l∈(viewP M w).L,l.length≤1000:=by
 obtain⟨tp1,tp2,tp3,tp4,tp5⟩:=h.wm.tp b w hw;obtain⟨r1,r2⟩:=h.wm.r;obtain⟨c1,c2⟩:=h.wm.c;unfold viewP;split
 ·obtain⟨x,hx,_⟩:=tp4 w.act tp3;rw[hx];have:=paneV_le h w.act;unfold paneV at this;rw[hx]at this;exact this
 ·obtain⟨a1,a2⟩:=viewU_wid h hw;exact⟨by omega,fun l hl=>by have:=a2 l hl;omega⟩
theorem foldl_congr{α β:Type}{f g:β→α→β}:∀{l:List α} {v:β},(∀v,∀e∈l,f v e=g v e)→l.foldl f v=l.foldl g v
 |[],_,_=>rfl
 |a::l,v,h=>by rw[List.foldl_cons,List.foldl_cons,h v a List.mem_cons_self];exact foldl_congr fun v e he=>h v e (List.mem_cons_of_mem _ he)
theorem viewP_congr{M M':Md}{w:Wn}(hr:M'.rows=M.rows)(hc:M'.cols=M.cols)(ha:w.act∈w.t.panes)(hP:∀k∈w.t.panes,M'.P k=M.P k):viewP M' w=viewP M w:=by
 unfold viewP viewU;rw[hP _ ha,hr,hc];have hf:(w.t.panes.zip (w.t.places (winRc M.rows M.cols))).foldl (viewStep M' w.act) (blankV M.rows M.cols)=(w.t.panes.zip (w.t.places (winRc M.rows M.cols))).foldl (viewStep M w.act) (blankV M.rows M.cols):=by refine foldl_congr fun v e he=>?_;unfold viewStep;rw[hP _ (List.of_mem_zip he).1,hr,hc]
 rw[hf]
structure Two(M:Md)(sa wla sb wlb ba bb:Nat)(wa wb:Wn):Prop where
 R:M.rows=20
 C:M.cols=40
 ss:M.ss=[⟨[97],sa,wla,1,[ba],0⟩,⟨[98],sb,wlb,1,[bb],0⟩]
 Wa:M.W ba=some wa
 Wb:M.W bb=some wb
 ne:ba≠bb
section
variable{M:Md}{sa wla sb wlb ba bb:Nat}{wa wb:Wn}
theorem Two.curA(h:Two M sa wla sb wlb ba bb wa wb)(hm:Wm M):cur M [97] ⟨[97],sa,wla,1,[ba],0⟩ ba wa:=by
 have hf:findS M.ss [97]=some ⟨[97],sa,wla,1,[ba],0⟩:=by rw[h.ss];rfl
 refine⟨hf,rfl,h.Wa,?_⟩;obtain⟨_,_,_,a4⟩:=hm.wb _ (findS_mem hf).1;obtain⟨v,v1,v2⟩:=a4 ba (by simp);rw[h.Wa]at v1;cases v1;exact v2
theorem Two.curB(h:Two M sa wla sb wlb ba bb wa wb)(hm:Wm M):cur M [98] ⟨[98],sb,wlb,1,[bb],0⟩ bb wb:=by
 have hf:findS M.ss [98]=some ⟨[98],sb,wlb,1,[bb],0⟩:=by rw[h.ss];rfl
 refine⟨hf,rfl,h.Wb,?_⟩;obtain⟨_,_,_,a4⟩:=hm.wb _ (findS_mem hf).1;obtain⟨v,v1,v2⟩:=a4 bb (by simp);rw[h.Wb]at v1;cases v1;exact v2
theorem Two.names(h:Two M sa wla sb wlb ba bb wa wb):sortS (M.ss.map (·.nm))=[[97],[98]]:=by rw[h.ss];show sortS [[97],[98]]=[[97],[98]];decide
end
abbrev Sc1:=VP×Sl×Q
def scV(x:Sc1):List Value:=x.1.l x.2.1
theorem scV_len(x:Sc1):(scV x).length=6:=rfl
structure Was(N:Nat)(H:Heap)(x12:Sl)(L:List Sc1):Prop where
 w:Whole H x12 (L.flatMap scV) t_42 6
 l:∀x∈L,Lines H x.1.L x.2.1 x.2.2
 x0:∀j,x12.at j→N≤j
 l0:∀x∈L,∀j,x.2.1.at j∨bl x.2.2 j→N≤j∧¬x12.at j
theorem Lines.lt1{H:Heap}{L:List (List Cl)}{y:Sl}{p:Q}(h:Lines H L y p){j:Nat}(e:y.at j∨bl p j):j<H.next:=by
 rcases e with e|e
 ·exact Whole.lt h.o e
 ·exact h.r.lt e
theorem Was.keep{S:Nat→Prop}{N:Nat}{H H':Heap}{x12:Sl}{L:List Sc1}(h:Was N H x12 L)(hk:Keep S H H')(hS:∀j,S j→¬N≤j):Was N H' x12 L:=⟨h.w.keep hk fun j e e'=>hS j e' (h.x0 j e),fun x hx=>(h.l x hx).keep hk (fun j e e'=>hS j e' (h.l0 x hx j (.inl e)).1) fun j e e'=>hS j e' (h.l0 x hx j (.inr e)).1,h.x0,h.l0⟩
theorem Was.keepo{N:Nat}{H H':Heap}{x12:Sl}{L:List Sc1}{o o':Ow}(h:Was N H x12 L)(s:St H o H' o')(hz:∀j,N≤j→j<H.next→o j=.z):Was N H' x12 L:=⟨h.w.keep s.kp fun j e e'=>e' (hz j (h.x0 j e) (Whole.lt h.w e)),fun x hx=>(h.l x hx).keep s.kp (fun j e e'=>e' (hz j (h.l0 x hx j (.inl e)).1 ((h.l x hx).lt1 (.inl e)))) fun j e e'=>e' (hz j (h.l0 x hx j (.inr e)).1 ((h.l x hx).lt1 (.inr e))),h.x0,h.l0⟩
theorem apart_after(e:Nat){Hb:Heap}{o:Ow}{M:Md}(hb:MxOk Hb o M){sa wla sb wlb ba bb:Nat}{wa wb:Wn}(two:Two M sa wla sb wlb ba bb wa wb){N:Nat}{x12:Sl}{L:List Sc1}(hw:Was N Hb x12 L)(hL:L.length=8){p:Int}(hp:∀(i:Nat) x,L[i]?=some x→(i:Int)≠p→x.1=paneV M i){p31:Nat}{yv:Sl}{qv:Q}(hNb:N≤Hb.next)(g31:Hb.get p31=some (.cells ((viewP M wb).l yv) t_42 false 0 false))(l31:p31<Hb.next)(hv:Lines Hb (viewP M wb).L yv qv):
  ∀(m0 i:Nat) {H:Heap},9-i<m0→i≤8→Keep0 Hb H→∃H',j28 (e+43) m0 (some ⟨M.m,0,none⟩) p x12 p31 (i:Int) H=some (.bool true,H'):=fun m0=>by
 induction m0 with
 |zero=>intro i H hm;omega
 |succ m0 ih=>
  intro i H hm hi k0;have h:=hb.new k0;rw[j28_s];by_cases h8:i<8
  ·rw[if_pos (show decide ((i:Int)<8)=true from decide_eq_true (by omega))];obtain⟨H1,y1,q1,n1,b1,e1,v1,f1,f1',k1⟩:=Pane_any (e+39) h (i:Int);rw[show X (e+43) n_13 [.pointer (some ⟨M.m,0,none⟩),.int .i64 (i:Int)] H=_ from e1];simp only[callK_s,cast_screen,List.getElem?_cons_zero,List.getElem?_cons_succ,optK_s,asA_s,asB_s,asI_s,newK_s];rw[put_screen2 (VP.l_len _ _) (VP.l_one _ _)];obtain⟨k2,g2,n2⟩:=put_screen_k H1 ((paneV M (i:Int)).l y1);generalize (H1.new (.cells [.int .i64 0,.int .i64 0,.slice none 0 0,.int .i64 0,.int .i64 0,.bool false] t_42 false 0 false)).put H1.next (.cells ((paneV M (i:Int)).l y1) t_42 false 0 false)=H2 at*
   have k02:=(k0.trans k1).trans k2;have next:∀{H3:Heap},Keep0 Hb H3→∃H',j29 (e+43) m0 (some ⟨M.m,0,none⟩) p x12 p31 (i:Int) false H3=some (.bool true,H'):=fun k3=>by rw[j29_eq,if_neg (by simp),wi (by omega)];exact ih (i+1) (by omega) (by omega) k3
   by_cases hip:(i:Int)=p
   ·rw[if_neg (show¬(!decide ((i:Int)=p))=true by simp[hip])];exact next k02
   ·rw[if_pos (show(!decide ((i:Int)=p))=true by simp[hip]),ldA6 g2 (VP.l_len _ _)];simp only[optK_s,asA_s];have hx:L[i]?=some L[i]:=List.getElem?_eq_getElem (by omega);have hxm:L[i]∈L:=List.getElem_mem (by omega);generalize L[i]'(by omega)=x at hx hxm;have hxe:=hp i x hx hip;have hwn:x12.n=8:=by have:=(Whole.len hw.w).1;rw[fm_len scV 6 scV_len,hL]at this;omega
    have hw2:=hw.keep k02 fun _ e=>e.elim;have hne:x12.a≠none:=by
     rcases hw.w with ⟨h1,_⟩|⟨b,q,h1,_⟩
     ·rw[h1]at hwn;simp at hwn
     ·rw[h1];simp
    obtain⟨bx,vx,_⟩:=Vw.of hw2.w hne;rw[vx.sa];simp only[optK_s];have hld:ldA H2 (ap ⟨bx,([]:List Value).length,none⟩ (((i:Int).toNat)*6)) 6=some (.agg ⟨scV x⟩):=by obtain⟨_,_,_,_,ob,sb',g0⟩:=vx;unfold ldA;rw[List.nil_append,List.append_nil]at g0;rw[Int.toNat_natCast,show ap ⟨bx,([]:List Value).length,none⟩ (i*6)=⟨bx,i*6,none⟩by simp[ap],ldN_s g0 (by rw[fm_len scV 6 scV_len];omega),fm_at scV 6 scV_len hx]
    rw[if_pos (show(0:Int)≤(i:Int)∧(i:Int)<(x12.n:Int)by omega),hld];simp only[optK_s,asA_s];obtain⟨hle1,hle2⟩:=paneV_le h (i:Int);obtain⟨H3,e3,k3⟩:=Same_v (e+41) (H:=H2) (v:=paneV M (i:Int)) (u:=x.1) hxe.symm (v1.new k2) (hw2.l x hxm) hle1 hle2;rw[show X (e+43) n_17 [.agg ⟨(paneV M (i:Int)).l y1⟩,.agg ⟨scV x⟩] H2=_ from e3];simp only[callK_s,asB_s];rw[show(!true)=false from rfl];exact next (k02.trans k3)
  ·rw[if_neg (show¬decide ((i:Int)<8)=true by rw[decide_eq_true_eq];omega)];obtain⟨H1,y1,q1,e1,v1,k1⟩:=View_c h (e+2) (two.curB hb.wm);rw[show X (e+43) n_14 [.pointer (some ⟨M.m,0,none⟩),.string (S [98])] H=_ from e1];simp only[callK_s,cast_view,List.getElem?_cons_zero,List.getElem?_cons_succ,optK_s,asA_s,asB_s,asI_s,newK_s];rw[put_screen2 (VP.l_len _ _) (VP.l_one _ _)];obtain⟨k2,g2,n2⟩:=put_screen_k H1 ((viewP M wb).l y1);generalize (H1.new (.cells [.int .i64 0,.int .i64 0,.slice none 0 0,.int .i64 0,.int .i64 0,.bool false] t_42 false 0 false)).put H1.next (.cells ((viewP M wb).l y1) t_42 false 0 false)=H2 at*
   have k02:=(k0.trans k1).trans k2;rw[ldA6 (k02.get l31 g31) (VP.l_len _ _)];simp only[optK_s,asA_s];rw[ldA6 g2 (VP.l_len _ _)];simp only[optK_s,asA_s];obtain⟨hle1,hle2⟩:=viewP_le hb two.Wb;obtain⟨H3,e3,k3⟩:=Same_v (e+41) (H:=H2) (v:=viewP M wb) (u:=viewP M wb) rfl (hv.new k02) (Lines.new ⟨v1.o,v1.r,v1.m⟩ k2) hle1 hle2;rw[show X (e+43) n_17 [.agg ⟨(viewP M wb).l yv⟩,.agg ⟨(viewP M wb).l y1⟩] H2=_ from e3];simp only[callK_s,asB_s];exact⟨H3,rfl⟩
theorem apart_before(e:Nat){H0:Heap}(pt:PTab H0){Hs:Heap}{o:Ow}{M:Md}(hs:Lw H0 Hs o M){sa wla sb wlb ba bb:Nat}{wa wb:Wn}(two:Two M sa wla sb wlb ba bb wa wb){x1:Sl}{l1:List Int}(hx1:Ints H0 x1 l1){p:Int}(hp:p∈wa.t.panes):
  ∀(m0 i:Nat) {H:Heap} {x12:Sl} {L:List Sc1},9-i<m0→i≤8→Keep0 Hs H→Was Hs.next H x12 L→L.map Prod.fst=(List.range i).map (fun k:Nat=>paneV M (k:Int))→
   ∃H',j27 (e+43) m0 x1 (some ⟨M.m,0,none⟩) p x12 (i:Int) H=some (.bool true,H'):=fun m0=>by
 induction m0 with
 |zero=>intro i H x12 L hm;omega
 |succ m0 ih=>
  intro i H x12 L hm hi k0 hw hL;have lw:=hs.new k0;have hLl:L.length=i:=by have:=congrArg List.length hL;rw[List.length_map,List.length_map,List.length_range]at this;exact this
  have hwn:x12.n=i:=by have:=(Whole.len hw.w).1;rw[fm_len scV 6 scV_len,hLl]at this;omega
  rw[j27_s];by_cases h8:i<8
  ·rw[if_pos (show decide ((i:Int)<8)=true from decide_eq_true (by omega))];obtain⟨H1,y1,q1,n1,b1,e1,v1,f1,f1',k1⟩:=Pane_any (e+39) lw.ok (i:Int);rw[show X (e+43) n_13 [.pointer (some ⟨M.m,0,none⟩),.int .i64 (i:Int)] H=_ from e1];simp only[callK_s,cast_screen,List.getElem?_cons_zero,List.getElem?_cons_succ,optK_s,asA_s,asB_s,asI_s,newK_s];rw[put_screen2 (VP.l_len _ _) (VP.l_one _ _)];obtain⟨k2,g2,n2⟩:=put_screen_k H1 ((paneV M (i:Int)).l y1);generalize (H1.new (.cells [.int .i64 0,.int .i64 0,.slice none 0 0,.int .i64 0,.int .i64 0,.bool false] t_42 false 0 false)).put H1.next (.cells ((paneV M (i:Int)).l y1) t_42 false 0 false)=H2 at*
   rw[ldA6 g2 (VP.l_len _ _)];simp only[optK_s,asA_s];rw[show fillL [(0,6)] [.agg ⟨(paneV M (i:Int)).l y1⟩] [.int .i64 0,.int .i64 0,.slice none 0 0,.int .i64 0,.int .i64 0,.bool false]=some ((paneV M (i:Int)).l y1)by simp only[fillL];rw[if_pos ⟨rfl,by decide,VP.l_one _ _⟩];rfl];simp only[optK_s];have k12:=k1.trans k2;have hw2:=hw.keep k12 fun _ e=>e.elim;obtain⟨y',H3,e3,w3,k3,_,f3,c3⟩:=push_whole (H:=H2) (s:=x12) (cs:=L.flatMap scV) (e:=t_42) (sz:=6) (bytes:=64) (new:=scV (paneV M (i:Int),y1,q1)) hw2.w rfl (by omega) (by omega) (by omega);rw[show(.cells ((paneV M (i:Int)).l y1) t_42 false 0 false:CObj)=.cells (scV (paneV M (i:Int),y1,q1)) t_42 false 0 false from rfl,e3];simp only[asSL_k];rw[wi (by omega)];have m0':=k0.1;have m1:=k1.1;have m2:=k2.1;have v2:=v1.new k2;refine ih (i+1) (x12:=y') (L:=L++[(paneV M (i:Int),y1,q1)]) (by omega) (by omega) ((k0.trans k12).fresh k3 hw.x0) ⟨by rw[List.flatMap_append,List.flatMap_cons,List.flatMap_nil,List.append_nil];exact w3,fun x hx=>?_,fun j e=>by have:=f3 j e;omega,fun x hx j e=>?_⟩ ?_
   ·rcases List.mem_append.1 hx with hx|hx
    ·exact(hw2.l x hx).keep k3 (fun j e e'=>(hw2.l0 x hx j (.inl e)).2 e') fun j e e'=>(hw2.l0 x hx j (.inr e)).2 e'
    ·rw[List.mem_singleton.1 hx];have hlt:∀j,x12.at j→j<H.next:=fun j e=>Whole.lt hw.w e
     exact v2.keep k3 (fun j e e'=>by have:=f1 j e;have:=hlt j e';omega) fun j e e'=>by have:=f1' j e;have:=hlt j e';omega
   ·rcases List.mem_append.1 hx with hx|hx
    ·exact⟨(hw2.l0 x hx j e).1,fun e'=>by have:=f3 j e';have:=(hw2.l x hx).lt1 e;omega⟩
    ·rw[List.mem_singleton.1 hx]at e;refine⟨?_,fun e'=>by have:=f3 j e';have:=v2.lt1 e;omega⟩;rcases e with e|e
     ·have:=f1 j e;omega
     ·have:=f1' j e;omega
   ·rw[List.map_append,hL,List.range_succ,List.map_append];rfl
  ·have h8':i=8:=by omega
   subst h8';rw[if_neg (by decide)];obtain⟨H1,y1,q1,e1,v1,k1⟩:=View_c lw.ok (e+2) (two.curB hs.ok.wm);rw[show X (e+43) n_14 [.pointer (some ⟨M.m,0,none⟩),.string (S [98])] H=_ from e1];simp only[callK_s,cast_view,List.getElem?_cons_zero,List.getElem?_cons_succ,optK_s,asA_s,asB_s,asI_s,newK_s];rw[put_screen2 (VP.l_len _ _) (VP.l_one _ _)];obtain⟨k2,g2,n2⟩:=put_screen_k H1 ((viewP M wb).l y1);generalize (H1.new (.cells [.int .i64 0,.int .i64 0,.slice none 0 0,.int .i64 0,.int .i64 0,.bool false] t_42 false 0 false)).put H1.next (.cells ((viewP M wb).l y1) t_42 false 0 false)=H2 at*
   have w2:=(lw.new k1).new k2;obtain⟨wd,H4,e4,wl4,k4⟩:=Output_s (e+40) (pt.keep w2.k0 id id) (hx1.new w2.k0) (R:=9) (by omega);rw[show X (e+43) n_16 [x1.v,.int .i64 9] H2=_ from e4];simp only[callK_s,asS_s];rw[lstS,slenS,show(wd.map fun b=>Value.int .u8 (b.toNat:Int))=bc wd from rfl];have k5:Keep0 H4 (H4.new (.cells (bc wd) t_5 true 0 true)):=Keep.new _ _;have g5:(H4.new (.cells (bc wd) t_5 true 0 true)).get H4.next=some (.cells (bc wd) t_5 true 0 true):=by simp
   have n5:(H4.new (.cells (bc wd) t_5 true 0 true)).next=H4.next+1:=rfl
   generalize H4.new (.cells (bc wd) t_5 true 0 true)=H5 at*;have w5:=(w2.new k4).new k5;have v5:BV H5 ⟨some ⟨H4.next,0,none⟩,wd.length,wd.length⟩ H4.next [] wd []:=⟨rfl,by rw[bytes_len];simp,Nat.le_refl _,by omega,true,true,by rw[List.nil_append,List.append_nil];exact g5⟩
   have hwm:=hs.ok.wm;obtain⟨x,hx,hxw⟩:=(hwm.tp ba wa two.Wa).2.2.2.1 p hp;obtain⟨H6,o6,A6,e6,h6,s6⟩:=Output_x w5.ok (e+31) (k:=p) hx (x:=⟨some ⟨H4.next,0,none⟩,wd.length,wd.length⟩) (l:=wd) (.inr ⟨_,_,_,v5⟩) (by omega);rw[show X (e+43) n_15 [.pointer (some ⟨M.m,0,none⟩),.int .i64 p,.slice (some ⟨H4.next,0,none⟩) wd.length wd.length] H5=_ from e6];simp only[callK_s,asI_s];have m0':=k0.1;have m1:=k1.1;have m2:=k2.1;have m4:=k4.1;have ozs:∀j,Hs.next≤j→o j=.z:=fun j hj=>hs.ok.oz j hj
   have k15:=((k1.trans k2).trans k4).trans k5;have hw5:=(hw.keep k15 fun _ e=>e.elim).keepo s6 fun j hj _=>ozs j hj;have k25:=k4.trans k5;obtain⟨g6,l6,_⟩:=s6.own (b:=H1.next) (by omega) (ozs _ (by omega)) (k25.get (by omega) g2);have vL:Lines H6 (viewP M wb).L y1 q1:=(Lines.new ⟨v1.o,v1.r,v1.m⟩ (k2.trans k25)).keep s6.kp (fun j e e'=>e' (ozs j (by have:=v1.fy j e;omega))) fun j e e'=>e' (ozs j (by have:=v1.fq j e;omega));have hpb:∀k∈wb.t.panes,k≠p:=fun k hk e'=>by obtain⟨z,hz,hzw⟩:=(hwm.tp bb wb two.Wb).2.2.2.1 k hk;rw[e',hx]at hz;cases hz;exact two.ne (hxw.symm.trans hzw)
   have two6:Two {M with P:=upd M.P p (some {x with A:=A6,q:=x.q.write G.doA wd})} sa wla sb wlb ba bb wa wb:=⟨two.R,two.C,two.ss,two.Wa,two.Wb,two.ne⟩;have hvc:viewP {M with P:=upd M.P p (some {x with A:=A6,q:=x.q.write G.doA wd})} wb=viewP M wb:=viewP_congr (M:=M) (M':={M with P:=upd M.P p (some {x with A:=A6,q:=x.q.write G.doA wd})}) rfl rfl (hwm.tp bb wb two.Wb).2.2.1 fun k hk=>upd_ne _ _ (hpb k hk);have:=apart_after e h6 two6 hw5 hLl (p:=p) (fun i z hz hne=>by
    have h1:=congrArg (fun l=>l[i]?) hL;simp only[List.getElem?_map,hz,Option.map_some]at h1;have hi8:i<8:=by have:=(List.getElem?_eq_some_iff.1 hz).1;omega
    rw[List.getElem?_range hi8]at h1;have h2:z.1=paneV M (i:Int):=by simpa using h1
    rw[h2];unfold paneV;rw[show({M with P:=upd M.P p (some {x with A:=A6,q:=x.q.write G.doA wd})}:Md).P (i:Int)=M.P (i:Int)from upd_ne _ _ hne]) (p31:=H1.next) (yv:=y1) (qv:=q1) (by have:=s6.kp.1;have:=k15.1;omega) (by rw[hvc];exact g6) l6 (by rw[hvc];exact vL) NN 0 (H:=H6) (by rw[NN_eq];omega) (by omega) (Keep.refl _)
   exact this
theorem Two.split(d:Nat){H0 H:Heap}{o:Ow}{M:Md}{sa wla sb wlb ba bb:Nat}{wa wb:Wn}(h:Lw H0 H o M)(two:Two M sa wla sb wlb ba bb wa wb)(hn:M.next<100)(ac:Bool):∃e H' o' M' wa',X (d+42) n_10 [P0 M.m,.string (S [97]),.bool ac] H=some (.int .i64 e,H')∧Lw H0 H' o' M'∧Two M' sa wla sb wlb ba bb wa' wb∧M'.m=M.m∧M'.next≤M.next+1:=by
 rcases Split_x h.ok d hn (two.curA h.ok.wm) ac with ⟨hs,H',e',k'⟩|⟨hs,n1,n2,x,H',o',P',e',h',s',_,_,_,_⟩
 ·exact⟨_,H',o,M,wa,e',h.new k',two,rfl,by omega⟩
 ·exact⟨_,H',o',_,_,e',h.step h' s',⟨two.R,two.C,two.ss,updN_same _ _ _,(updN_ne _ _ (Ne.symm two.ne)).trans two.Wb,two.ne⟩,rfl,Nat.le_refl _⟩
theorem apart_pick(e:Nat){H0 H:Heap}(pt:PTab H0){o:Ow}{M:Md}(hw:Lw H0 H o M){sa wla sb wlb ba bb:Nat}{wa wb:Wn}(two:Two M sa wla sb wlb ba bb wa wb){x0 x1:Sl}{l1:List Int}(hx1:Ints H0 x1 l1)(x2:Int)(i m0:Nat):∃H',j15 (e+43) m0 x0 x1 x2 (some ⟨M.m,0,none⟩) (i:Int) false H=some (.bool true,H'):=by
 rw[j15_eq,if_neg (by simp)];have hc:=two.curA hw.ok.wm;obtain⟨tp1,tp2,tp3,tp4,tp5⟩:=hw.ok.wm.tp ba wa two.Wa;obtain⟨y,T,H1,e1,t1,n1,k1⟩:=Sessions_x (e+12) hw.ok;rw[show X (e+43) n_11 [.pointer (some ⟨M.m,0,none⟩)] H=_ from e1];simp only[callK_s,asSL_k];obtain⟨bT,bW,sp,sl,q1,q2,_,q3,q4,q5,q6,q7,_,q9⟩:=first_told t1 hw.ok.wm (n1.trans two.names) hc.1 rfl hc.2.2.1;rw[q1];simp only[optK_s];rw[if_pos (show(0:Int)≤0∧(0:Int)<(y.n:Int)by omega),q3];simp only[optK_s,asSL_k];rw[q4];simp only[optK_s];rw[if_pos (show(0:Int)≤0∧(0:Int)<(sl.n:Int)by omega),q7];simp only[optK_s,asSL_k];have w1:=hw.new k1;obtain⟨y2,T2,H2,e2,t2,n2,k2⟩:=Sessions_x (e+12) w1.ok;rw[show X (e+43) n_11 [.pointer (some ⟨M.m,0,none⟩)] H1=_ from e2];simp only[callK_s,asSL_k];obtain⟨cT,cW,sp2,sl2,u1,u2,_,u3,u4,u5,u6,u7,_,u9⟩:=first_told t2 hw.ok.wm (n2.trans two.names) hc.1 rfl hc.2.2.1;rw[u1];simp only[optK_s];rw[if_pos (show(0:Int)≤0∧(0:Int)<(y2.n:Int)by omega),u3];simp only[optK_s,asSL_k];rw[u4];simp only[optK_s];rw[if_pos (show(0:Int)≤0∧(0:Int)<(sl2.n:Int)by omega),u7];simp only[optK_s,asSL_k];have hsn:sp.n=wa.t.panes.length:=by have:=(Whole.len q9).1;rw[List.length_map]at this;omega
 have hsn2:sp2.n=wa.t.panes.length:=by have:=(Whole.len u9).1;rw[List.length_map]at this;omega
 have hpos:0<wa.t.panes.length:=List.length_pos_of_mem tp3;obtain⟨r,e3,hr⟩:=Pick_s (e+42) x2 sp.n H2 (by omega) (by omega);rw[show X (e+43) n_12 [.int .i64 x2,.int .i64 (sp.n:Int)] H2=_ from e3];simp only[callK_s,asI_s];have hpr:wa.t.panes[r]?=some wa.t.panes[r]:=List.getElem?_eq_getElem (by omega);have hpm:wa.t.panes[r]∈wa.t.panes:=List.getElem_mem (by omega);generalize wa.t.panes[r]'(by omega)=p at hpr hpm;obtain⟨bb',eb,lb⟩:=lyIntAt u9 hpr;rw[eb];simp only[optK_s];rw[if_pos (show(0:Int)≤(r:Int)∧(r:Int)<(sp2.n:Int)by omega),lb];simp only[optK_s,asI_s];rw[show rdsOk _ _=true from by simp only[rdsOk,Bool.and_true];rw[show 2+1-1=2 from rfl,rdOk_2,rdOk_2,rdAt_s rfl (show readD (.load 1 false) [.pointer (some (ap (ap ⟨cW,0,none⟩ 0) 0))] H2=_ from u7) (same_sl _ _ _),rdAt_s rfl (show readD (.load 1 false) [.pointer (some (ap (ap ⟨cW,0,none⟩ 0) 0))] H2=_ from u7) (same_sl _ _ _),rdAt_s rfl (show readD (.load 1 false) [.pointer (some (ap (ap ⟨cT,0,none⟩ 0) 2))] H2=_ from u3) (same_sl _ _ _),rdAt_s rfl (show readD (.load 1 false) [.pointer (some (ap (ap ⟨cT,0,none⟩ 0) 2))] H2=_ from u3) (same_sl _ _ _)];rfl];simp only[chk_s];exact apart_before e pt (w1.new k2) two hx1 hpm NN 0 (by rw[NN_eq];omega) (by omega) (Keep.refl _) ⟨.inl ⟨rfl,rfl⟩,fun x hx=>absurd hx List.not_mem_nil,fun j e=>absurd e Sl.at_nil,fun x hx=>absurd hx List.not_mem_nil⟩ rfl
theorem apart_splits(e:Nat){H0:Heap}(pt:PTab H0){sa wla sb wlb ba bb:Nat}{wb:Wn}{x0 x1:Sl}{l0:List Bool}{l1:List Int}(hx0:Bools H0 x0 l0)(hx1:Ints H0 x1 l1)(x2:Int):∀(m0 i:Nat) {H:Heap} {o:Ow} {M:Md} {wa:Wn},6-i<m0→i≤5→M.next≤i+2→Lw H0 H o M→Two M sa wla sb wlb ba bb wa wb→
  ∃H',j26 (e+43) m0 x0 x1 x2 (some ⟨M.m,0,none⟩) (i:Int) H=some (.bool true,H'):=fun m0=>by
 induction m0 with
 |zero=>intro i H o M wa hm;omega
 |succ m0 ih=>
  intro i H o M wa hm hi hn hw two;rw[j26_s];by_cases h1:(i:Int)<(x0.n:Int)
  ·rw[if_pos (decide_eq_true h1)];by_cases h5:i<5
   ·rw[show decide ((i:Int)<5)=true from decide_eq_true (by omega),j15_eq,if_pos rfl];obtain⟨a,c,ea,la⟩:=(hx0.new hw.k0).ld (i:=i) (by omega);rw[ea];simp only[optK_s];rw[if_pos (show(0:Int)≤(i:Int)∧(i:Int)<(x0.n:Int)by omega),la];simp only[optK_s,asB_s];obtain⟨er,H1,o1,M1,w1,e1,lw1,two1,hm1,hn1⟩:=two.split (e+1) hw (by omega) c;rw[show X (e+43) n_10 [.pointer (some ⟨M.m,0,none⟩),.string (S [97]),.bool c] H=_ from e1];simp only[callK_s,asI_s];rw[wi (by omega),←hm1];exact ih (i+1) (by omega) (by omega) (by omega) lw1 two1
   ·rw[show decide ((i:Int)<5)=false from decide_eq_false (by omega)];exact apart_pick e pt hw two hx1 x2 i m0
  ·rw[if_neg (show¬decide ((i:Int)<(x0.n:Int))=true by simpa using h1)];exact apart_pick e pt hw two hx1 x2 i m0
theorem MuxApart_s(e:Nat){H0:Heap}(t:Tab H0)(pt:PTab H0){x0 x1:Sl}{l0:List Bool}{l1:List Int}(hx0:Bools H0 x0 l0)(hx1:Ints H0 x1 l1)(x2:Int):∃H',X (e+44) n_3 [x0.v,x1.v,.int .i64 x2] H0=some (.bool true,H'):=by
 rw[law23_MuxApart_eq];obtain⟨m,H1,H2,o,M,s,wl,b,w,e3,e4,hm,lw,one,hn,hz⟩:=start_a e t (R:=20) (C:=40) (by omega) (by omega);rw[show X (e+43) n_7 [.int .i64 20,.int .i64 40] H0=_ from e3];simp only[callK_s,castT_s,castL_c,castL_n,cast0,P0,asP_s,asI_s,optK_s,List.getElem?_cons_zero,List.getElem?_cons_succ];rw[known_x];simp only[callK_s,asB_s];rw[if_neg (by simp),if_neg (by simp),if_neg (show¬(some (⟨m,0,none⟩:Addr)).isNone=true by simp)];rw[show X (e+43) n_9 [.pointer (some ⟨m,0,none⟩),.string (S [97])] H1=_ from e4];simp only[callK_s,asI_s];rw[if_neg (by simp),←hm];have hb0:rightB [98]=true:=by decide
 have hf:findS M.ss [98]=none:=by rw[one.ss];rfl
 obtain⟨s2,wl2,b2,tb2,nd2,x,H3,o3,e5,h3,x1',x2',s3,hb2⟩:=NewSession_x e lw.ok (by omega) (nm:=[98]) (by simp) (by unfold newE;rw[hb0,hf,one.ss];rfl);rw[show X (e+43) n_9 [.pointer (some ⟨M.m,0,none⟩),.string (S [98])] H2=_ from e5];simp only[callK_s,asI_s];rw[show(!decide True)=false from rfl,ji_eq,if_neg (by simp)];have hbl:=(lw.ok.hW b w one.W).lt;have lw3:=lw.step h3 s3;have two:Two {M with next:=M.next+1,ss:=M.ss++[⟨[98],s2,wl2,1,[b2],0⟩],W:=updN M.W b2 (some ⟨tb2,.leaf nd2 (M.next:Int),(M.next:Int),false,s2⟩),P:=upd M.P (M.next:Int) (some x)} s wl s2 wl2 b b2 w ⟨tb2,.leaf nd2 (M.next:Int),(M.next:Int),false,s2⟩:=⟨one.R,one.C,by show M.ss++[_]=_;rw[one.ss];rfl,(updN_ne _ _ (by omega)).trans one.W,updN_same _ _ _,by omega⟩;exact apart_splits e pt hx0 hx1 x2 NN 0 (M:={M with next:=M.next+1,ss:=M.ss++[⟨[98],s2,wl2,1,[b2],0⟩],W:=updN M.W b2 (some ⟨tb2,.leaf nd2 (M.next:Int),(M.next:Int),false,s2⟩),P:=upd M.P (M.next:Int) (some x)}) (by rw[NN_eq];omega) (by omega) (by show M.next+1≤0+2;omega) lw3 two
end Go.Proofs.YtjjchnjcmnkpdaaGreatDoor.dec

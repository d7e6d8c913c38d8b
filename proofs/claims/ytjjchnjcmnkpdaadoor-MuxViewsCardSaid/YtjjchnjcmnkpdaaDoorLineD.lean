/-
  mux: names; a new mux; a new session.
-/
import Derived.Test.YtjjchnjcmnkpdaaDoorLineC
import Derived.Test.YtjjchnjcmnkpdaaDoorDecA
import Derived.Test.YtjjchnjcmnkpdaaDoorCmH
import Derived.Test.YtjjchnjcmnkpdaaDoorLineB
import Derived.Test.YtjjchnjcmnkpdaaDoorDecB
namespace Go.Proofs.YtjjchnjcmnkpdaaDoor.dec
open Go Go.Cm
attribute [local congr] optK_congr asI_congr asN_congr asB_congr asS_congr asP_congr asA_congr asSL_congr callK_congr castT_congr chk_congr
def okB(c:UInt8):Bool:=(decide (97≤c.toNat)&&decide (c.toNat≤122))||(decide (48≤c.toNat)&&decide (c.toNat≤57))||decide (c.toNat=45)
def rightB(l:W):Bool:=l.all okB&&(decide (l≠[])&&decide (l.length≤20))
theorem Right_loop(d:Nat){l:W}(hl:l.length≤1000000000000)(H:Heap):∀(r:W) (m i:Nat),r.length<m→l.drop i=r→i+r.length=l.length→j1c d m (S l) (i:Int) H=some (.bool (r.all okB&&(decide (l≠[])&&decide (l.length≤20))),H):=by
 intro r;induction r with
 |nil=>
  intro m i hm _ hi;obtain⟨m,rfl⟩:∃m',m=m'+1:=⟨m-1,by simp at hm;omega⟩;simp only[List.length_nil]at hi;rw[j1c_s,slenS,if_neg (show¬decide ((i:Int)<(l.length:Int))=true by rw[decide_eq_true_eq];omega)];have he:sEq (S l) (S [])=decide (l=[]):=sEq_S l [];rw[he];by_cases h0:l=[]
  ·rw[if_neg (by simp[h0])];simp[h0]
  ·rw[if_pos (by simp[h0])];have hc:decide ((l.length:Int)≤20)=decide (l.length≤20):=decide_eq_decide.2 (by omega);rw[hc];simp[h0]
 |cons c r ih=>
  intro m i hm hd hi;simp only[List.length_cons]at hm hi;obtain⟨m,rfl⟩:∃m',m=m'+1:=⟨m-1,by omega⟩;have hc:l[i]?=some c:=by have:=congrArg (fun x=>x[0]?) hd;simpa using this
  have hdr:l.drop (i+1)=r:=by rw[←List.drop_drop,hd];rfl
  rw[j1c_s,slenS,if_pos (show decide ((i:Int)<(l.length:Int))=true from decide_eq_true (by omega)),if_pos (show(0:Int)≤(i:Int)∧(i:Int)<(l.length:Int)by omega)];have hb:bt (S l) ((i:Int).toNat)=(c.toNat:Int):=by rw[Int.toNat_natCast];exact btS hc
  rw[hb];have key:(if decide ((c.toNat:Int)<97)=true then(if decide ((c.toNat:Int)<48)=true then j0 d m (S l) (i:Int) (!decide ((c.toNat:Int)=45)) H else(if decide ((57:Int)<(c.toNat:Int))=true then j0 d m (S l) (i:Int) (!decide ((c.toNat:Int)=45)) H else j0 d m (S l) (i:Int) false H))else(if decide ((122:Int)<(c.toNat:Int))=true then(if decide ((c.toNat:Int)<48)=true then j0 d m (S l) (i:Int) (!decide ((c.toNat:Int)=45)) H else(if decide ((57:Int)<(c.toNat:Int))=true then j0 d m (S l) (i:Int) (!decide ((c.toNat:Int)=45)) H else j0 d m (S l) (i:Int) false H))else j0 d m (S l) (i:Int) false H))=j0 d m (S l) (i:Int) (!okB c) H:=by
   have e45:decide ((c.toNat:Int)=45)=decide (c.toNat=45):=decide_eq_decide.2 (by omega);have bT:∀{a b:Bool},a=b→j0 d m (S l) (i:Int) a H=j0 d m (S l) (i:Int) b H:=fun e=>by rw[e]
   rw[e45];simp only[decide_eq_true_eq];split
   ·split
    ·refine bT ?_;unfold okB;rw[decide_eq_false (show¬97≤c.toNat by omega),decide_eq_false (show¬48≤c.toNat by omega)];simp
    ·split
     ·refine bT ?_;unfold okB;rw[decide_eq_false (show¬97≤c.toNat by omega),decide_eq_false (show¬c.toNat≤57 by omega)];simp
     ·refine bT ?_;unfold okB;rw[decide_eq_true (show 48≤c.toNat by omega),decide_eq_true (show c.toNat≤57 by omega)];simp
   ·split
    ·split
     ·omega
     ·split
      ·refine bT ?_;unfold okB;rw[decide_eq_false (show¬c.toNat≤122 by omega),decide_eq_false (show¬c.toNat≤57 by omega)];simp
      ·omega
    ·refine bT ?_;unfold okB;rw[decide_eq_true (show 97≤c.toNat by omega),decide_eq_true (show c.toNat≤122 by omega)];simp
  rw[key,j0_eq];by_cases ho:okB c=true
  ·rw[if_neg (by simp[ho]),wi (by omega),ih m (i+1) (by omega) hdr (by omega),List.all_cons,ho,Bool.true_and]
  ·have ho':okB c=false:=by simpa using ho
   rw[if_pos (by simp[ho']),List.all_cons,ho'];rfl
theorem Right_x(d:Nat)(l:W)(hl:l.length≤1000000000000)(H:Heap):X (d+1) n_14 [.string (S l)] H=some (.bool (rightB l),H):=by rw[mux_Right_eq];exact Right_loop d hl H l NN 0 (by rw[NN_eq];omega) rfl (by omega)
theorem New_x(d:Nat){H:Heap}(t:Tab H){r c:Nat}(hr:1≤r∧r≤60)(hc:1≤c∧c≤90):∃m sm pm H' o,X (d+8) n_5 [.int .i64 (r:Int),.int .i64 (c:Int)] H=some (.tuple ⟨[P0 m,.int .i64 0]⟩,H')∧MxOk H' o ⟨m,sm,pm,r,c,0,Sl.nil,[],[],fun _=>none,fun _=>none⟩∧Keep0 H H'∧∀j,j<H.next→o j=.z:=by
 obtain⟨m,sm,pm,H1,e1,a1,a2,a3,b1,b2,b3,b4,k1⟩:=New5_s d r c hr (show 1≤c∧c≤120 by omega) t.lt;refine⟨m,sm,pm,H1,tagS (tagS (tagS (fun _=>.z) (· =m) .m) (· =pm) .pm) (· =sm) .sm,e1,?_,k1,fun j hj=>(tagS_out (by omega)).trans ((tagS_out (by omega)).trans (tagS_out (by omega)))⟩;have ht:=t.lt;have q1:(tagS (tagS (tagS (fun _=>Tg.z) (· =m) .m) (· =pm) .pm) (· =sm) .sm) m=.m:=(tagS_out (by show¬m=sm;omega)).trans ((tagS_out (by show¬m=pm;omega)).trans (tagS_in rfl));have q2:(tagS (tagS (tagS (fun _=>Tg.z) (· =m) .m) (· =pm) .pm) (· =sm) .sm) pm=.pm:=(tagS_out (by show¬pm=sm;omega)).trans (tagS_in rfl);have q3:(tagS (tagS (tagS (fun _=>Tg.z) (· =m) .m) (· =pm) .pm) (· =sm) .sm) sm=.sm:=tagS_in rfl;have q4:∀k,k≠m→k≠pm→k≠sm→(tagS (tagS (tagS (fun _=>Tg.z) (· =m) .m) (· =pm) .pm) (· =sm) .sm) k=.z:=fun k e1 e2 e3=>by rw[tagS_out (S:=(· =sm)) e3,tagS_out (S:=(· =pm)) e2,tagS_out (S:=(· =m)) e1]
 exact{gm:=a1
       lm:=b4
       om:=q1
       gs:=⟨[],0,a2,⟨rfl,rfl,by simp,fun e he=>by simp at he⟩⟩
       ls:=by show sm<_;omega
       os:=q3
       gp:=⟨[],0,a3,⟨[],rfl,by simp,fun _ _=>rfl,fun i k e h=>by simp at h⟩⟩
       lp:=by show pm<_;omega
       op:=q2
       bf:=.inl ⟨rfl,rfl⟩
       ob:=fun k e=>absurd e Sl.at_nil
       hS:=fun s hs=>by simp at hs
       hW:=fun b w hw=>nomatch hw
       hP:=fun k x hx=>nomatch hx
       wm:=⟨hr,hc,fun k x hx=>(nomatch hx),by simp,by simp,by simp,fun s hs=>by simp at hs,fun b w hw=>(nomatch hw),fun s hs=>by simp at hs⟩
       tab:=t.keep k1 id id
       o5:=fun k hk=>q4 k (by omega) (by omega) (by omega)
       oz:=fun k hk=>q4 k (by omega) (by omega) (by omega)}
theorem SMap.add{es:List (Value×Value×Nat)}{clk:Nat}{ss:List Sn}(h:SMap es clk ss)(s:Sn):SMap (es++[(.string (S s.nm),P0 s.b,clk)]) (clk+1) (ss++[s]):=by
 refine⟨by simp[h.k],by simp[h.v],?_,fun e he=>?_⟩
 ·rw[List.map_append,List.nodup_append];refine⟨h.nd,by simp,fun a ha b hb=>?_⟩;obtain⟨e,he,rfl⟩:=List.mem_map.1 ha;have:=h.lt e he;simp only[List.map_cons,List.map_nil,List.mem_singleton]at hb;omega
 ·rcases List.mem_append.1 he with he|he
  ·have:=h.lt e he;omega
  ·rw[List.mem_singleton.1 he];exact Nat.lt_succ_self _
theorem Wm.sess{M:Md}(h:Wm M){nm:W}{s wl b:Nat}{w:Wn}(hf:findS M.ss nm=none)(hl:M.ss.length<8)(hs:s∉M.ss.map (·.b))(hw:M.W b=some w)(hb:∀t∈M.ss,b∉t.wbs)(hnl:nm.length≤20):Wm {M with ss:=M.ss++[⟨nm,s,wl,1,[b],0⟩],W:=updN M.W b (some {w with ses:=s})}:=by
 refine⟨h.r,h.c,h.nx,?_,?_,by show(M.ss++[_]).length≤8;rw[List.length_append,List.length_singleton];omega,fun t ht=>?_,fun c v hc=>?_,fun t ht=>?_⟩
 ·show((M.ss++[_]).map Sn.nm).Nodup;rw[List.map_append,List.nodup_append];exact⟨h.nn,by simp,fun a ha b hb e=>by simp only[List.map_cons,List.map_nil,List.mem_singleton]at hb;exact findS_none.1 hf (by rw[←hb,←e];exact ha)⟩
 ·show((M.ss++[_]).map Sn.b).Nodup;rw[List.map_append,List.nodup_append];exact⟨h.sb,by simp,fun a ha b hb e=>by simp only[List.map_cons,List.map_nil,List.mem_singleton]at hb;exact hs (by rw[←hb,←e];exact ha)⟩
 ·rcases List.mem_append.1 ht with ht|ht
  ·obtain⟨a1,a2,a3,a4⟩:=h.wb t ht;refine⟨a1,a2,a3,fun c hc=>?_⟩;obtain⟨v,v1,v2⟩:=a4 c hc;have hne:c≠b:=fun e=>hb t ht (e▸hc);exact⟨v,(updN_ne _ _ hne).trans v1,v2⟩
  ·rw[List.mem_singleton.1 ht];refine⟨by simp,by simp,by simp,fun c hc=>?_⟩;simp only[List.mem_singleton]at hc;subst hc;exact⟨_,updN_same _ _ _,rfl⟩
 ·by_cases e:c=b
  ·subst e;have hv:=(updN_same M.W c (some {w with ses:=s})).symm.trans hc;cases hv;exact h.tp c w hw
  ·exact h.tp c v ((updN_ne _ _ e).symm.trans hc)
 ·rcases List.mem_append.1 ht with ht|ht
  ·exact h.nl t ht
  ·rw[List.mem_singleton.1 ht];exact hnl
theorem MxOk.sess{H H3:Heap}{o:Ow}{M:Md}(h:MxOk H o M){nm:W}{s wl b:Nat}{w:Wn}(hf:findS M.ss nm=none)(hl:M.ss.length<8)(hw:M.W b=some w)(hb:∀t∈M.ss,b∉t.wbs)(hnl:nm.length≤20){es:List (Value×Value×Nat)}{clk:Nat}(hes:SMap es clk M.ss)(k3:Keep0 H H3)(od:H.next≤wl∧wl<s∧s<H3.next)(gw:H3.get wl=some (.cells [P0 b] t_56 false 0 false))(gs:H3.get s=some (.cells [.slice (some ⟨wl,0,none⟩) 1 1,.int .i64 0] t_60 false 0 false)):∃o',MxOk (H3.put M.sm (.map (es++[(.string (S nm),P0 s,clk)]) (clk+1))) o' {M with ss:=M.ss++[⟨nm,s,wl,1,[b],0⟩],W:=updN M.W b (some {w with ses:=s})}∧St H o (H3.put M.sm (.map (es++[(.string (S nm),P0 s,clk)]) (clk+1))) o':=by
 have k4:Keep (fun k=>k=M.sm) H3 (H3.put M.sm (.map (es++[(.string (S nm),P0 s,clk)]) (clk+1))):=Keep.put _ _ _ rfl;have g4:(H3.put M.sm (.map (es++[(.string (S nm),P0 s,clk)]) (clk+1))).get M.sm=some (.map (es++[(.string (S nm),P0 s,clk)]) (clk+1)):=by simp
 generalize H3.put M.sm (.map (es++[(.string (S nm),P0 s,clk)]) (clk+1))=H4 at*;have hk:KT o (fun t=>t=.sm) H H4:=(k3.to (S:=fun j=>o j=.sm)).trans k4 fun j _ e=>by have e':j=M.sm:=e;rw[e'];exact h.os
 have hsl:=h.ls;have he:Ex H o (tagS (tagS o (· =wl) (.wl s)) (· =s) (.s s)):=fun j hj=>(tagS_out (by omega)).trans (tagS_out (by omega));have nz:¬(fun t=>t=Tg.sm) Tg.z:=by simp
 have n4:=k4.1;have hsn:s∉M.ss.map (·.b):=fun hm=>by obtain⟨t,ht,e⟩:=List.mem_map.1 hm;have:=(h.hS t ht).lt;omega
 refine⟨tagS (tagS o (· =wl) (.wl s)) (· =s) (.s s),⟨h.kgm hk (by simp),h.klm hk,(he _ h.lm).trans h.om,⟨_,_,g4,hes.add ⟨nm,s,wl,1,[b],0⟩⟩,h.kls hk,(he _ h.ls).trans h.os,h.kgp hk (by simp),h.klp hk,(he _ h.lp).trans h.op,h.kbf hk (by simp),h.kob he,fun t ht=>?_,fun c v hv=>?_,fun j y hy=>(h.hP j y hy).keep hk he (by simp) (by simp) (by simp),h.wm.sess hf hl hsn hw hb hnl,h.ktab hk nz,h.ko5 he,fun j hj=>(tagS_out (by omega)).trans ((tagS_out (by omega)).trans (h.oz j (by have:=hk.1;omega)))⟩,St.of hk he nz⟩
 ·rcases List.mem_append.1 ht with ht|ht
  ·exact(h.hS t ht).keep hk he (by simp) (by simp)
  ·rw[List.mem_singleton.1 ht];refine⟨(k4.2 s (by omega) (by omega)).trans gs,by show s<_;omega,tagS_in rfl,⟨by show wl<_;omega,rfl,[],false,false,?_,rfl⟩,(tagS_out (by show¬wl=s;omega)).trans (tagS_in rfl)⟩;exact(k4.2 wl (by omega) (by omega)).trans gw
 ·by_cases e:c=b
  ·subst e;have hv':=(updN_same M.W c (some {w with ses:=s})).symm.trans hv;cases hv';have wx:=(h.hW c w hw).keep hk he (by simp) (by simp) (by simp);exact⟨wx.get,wx.lt,wx.ob,wx.gt,wx.tl,wx.ot,wx.tr,wx.od,wx.nd⟩
  ·have hv':M.W c=some v:=(updN_ne _ _ e).symm.trans hv;exact(h.hW c v hv').keep hk he (by simp) (by simp) (by simp)
def newE(M:Md)(nm:W):Int:=if rightB nm=false then 1 else if(findS M.ss nm).isSome then 15 else if 8≤M.ss.length then 2 else 0
theorem NewSession_x(d:Nat){H:Heap}{o:Ow}{M:Md}(h:MxOk H o M)(hn:M.next<100){nm:W}(hl:nm.length≤1000000000000)(he:newE M nm=0):∃s wl b tb nd x H' o',X (d+43) n_7 [P0 M.m,.string (S nm)] H=some (.int .i64 0,H')∧MxOk H' o' {M with next:=M.next+1,ss:=M.ss++[⟨nm,s,wl,1,[b],0⟩],W:=updN M.W b (some ⟨tb,.leaf nd (M.next:Int),(M.next:Int),false,s⟩),P:=upd M.P (M.next:Int) (some x)}∧x.q=GP.new M.rows M.cols∧x.qu=[]∧St H o H' o'∧H.next≤b:=by
 unfold newE at he;have hr:rightB nm=true:=by
  cases e:rightB nm with
  |true=>rfl
  |false=>rw[if_pos e]at he;cases he
 rw[if_neg (by simp[hr])]at he;have hf:findS M.ss nm=none:=by
  cases e:findS M.ss nm with
  |none=>rfl
  |some s=>rw[e,if_pos (by rfl)]at he;cases he
 rw[hf,if_neg (by simp)]at he;have h8:M.ss.length<8:=by
  by_cases e:8≤M.ss.length
  ·rw[if_pos e]at he;cases he
  ·omega
 rw[mux_Mux_NewSession_eq,h.l2];simp only[optK_s,asM_s];rw[h.lkSn hf true];simp only[lk_n,optK_s,castT_s,castL_c,castL_n,cast0,P0,asP_s,asB_s,List.getElem?_cons_zero,List.getElem?_cons_succ];rw[Right_x (d+41) nm hl H];simp only[callK_s,asB_s];rw[if_neg (by simp[hr]),if_neg (by simp)];obtain⟨es0,c0,g0,hes0⟩:=h.gs;simp only[h.l2,optK_s,asM_s];rw[show readD .lenMap [.map (some M.sm)] H=some (.int .i64 (es0.length:Int))by simp only[readD,Heap.ents,g0]];simp only[optK_s,asI_s];rw[if_neg (show¬decide ((8:Int)≤(es0.length:Int))=true by rw[decide_eq_true_eq,hes0.len];omega)];obtain⟨b,tb,nd,x,H1,o1,e1,h1,x1,x2,x3,s1,hb⟩:=fresh_x d h hn 0;rw[show X (d+42) n_15 [.pointer (some ⟨M.m,0,none⟩)] H=_ from e1];simp only[callK_s,P0,asP_s,newK_s];have k2:Keep0 H1 (H1.new (.cells [.pointer (some ⟨b,0,none⟩)] t_56 false 0 false)):=Keep.new _ _;have g2:(H1.new (.cells [.pointer (some ⟨b,0,none⟩)] t_56 false 0 false)).get H1.next=some (.cells [P0 b] t_56 false 0 false):=by simp
 have n2:(H1.new (.cells [.pointer (some ⟨b,0,none⟩)] t_56 false 0 false)).next=H1.next+1:=rfl
 generalize H1.new (.cells [.pointer (some ⟨b,0,none⟩)] t_56 false 0 false)=H2 at*;have k3:Keep0 H2 (H2.new (.cells [.slice (some ⟨H1.next,0,none⟩) 1 1,.int .i64 0] t_60 false 0 false)):=Keep.new _ _;have g3:(H2.new (.cells [.slice (some ⟨H1.next,0,none⟩) 1 1,.int .i64 0] t_60 false 0 false)).get H2.next=some (.cells [.slice (some ⟨H1.next,0,none⟩) 1 1,.int .i64 0] t_60 false 0 false):=by simp
 have n3:(H2.new (.cells [.slice (some ⟨H1.next,0,none⟩) 1 1,.int .i64 0] t_60 false 0 false)).next=H2.next+1:=rfl
 generalize H2.new (.cells [.slice (some ⟨H1.next,0,none⟩) 1 1,.int .i64 0] t_60 false 0 false)=H3 at*;have k13:=k2.trans k3;obtain⟨es,c,gs1,hes⟩:=h1.gs;have gs3:H3.get M.sm=some (.map es c):=k13.get h1.ls gs1;have hfm:mapFind .str (.string (S nm)) es 0=some none:=by have:=hes.find h1.wm.nn nm;rw[show findS M.ss nm=none from hf]at this;exact this
 have eu:∀K,effK (.mapE (.upd .str)) [.map (some M.sm),.string (S nm),.pointer (some ⟨H2.next,0,none⟩)] H3 K=K (.tuple #[]) (H3.put M.sm (.map (es++[(.string (S nm),P0 H2.next,c)]) (c+1))):=fun K=>by simp only[effK,mapD,isKey,if_true,Heap.ents,gs3,hfm,optK_s]
 rw[eu];obtain⟨o',h',s'⟩:=h1.sess (H3:=H3) (nm:=nm) (s:=H2.next) (wl:=H1.next) (b:=b) hf h8 (updN_same _ _ _) (fun t ht hbt=>by
  obtain⟨_,_,_,a4⟩:=h.wm.wb t ht;obtain⟨v,v1,_⟩:=a4 b hbt;have:=(h.hW b v v1).lt;omega) (by
  unfold rightB at hr;simp only[Bool.and_eq_true,decide_eq_true_eq]at hr;exact hr.2.2) hes k13 (by omega) (k3.get (by omega) g2) g3
 have l2':∀{Hx:Heap},Hx.get M.m=H1.get M.m→readD (.load 1 false) [.pointer (some ⟨M.m,2,none⟩)] Hx=some (.map (some M.sm)):=fun e=>(ld1_s (e.trans h1.gm)).trans rfl;have hm1:=h1.lm;have hm1':M.m<H1.next:=hm1
 rw[show rdsOk _ _=true from by simp only[rdsOk,Bool.and_true];rw[show 3+1-0=4 from rfl,rdOk_4,rdAt_s rfl (show readD (.load 1 false) [.pointer (some ⟨M.m,2,none⟩)] H=_ from h.l2) (by simp[same,same0]),rdAt_s rfl (l2' rfl) (by simp[same,same0]),rdAt_s rfl (l2' (k2.2 _ hm1' id)) (by simp[same,same0]),rdAt_s rfl (l2' (k13.2 _ hm1' id)) (by simp[same,same0])];rfl];simp only[chk_s];have hW2:updN (updN M.W b (some ⟨tb,.leaf nd (M.next:Int),(M.next:Int),false,0⟩)) b (some ⟨tb,.leaf nd (M.next:Int),(M.next:Int),false,H2.next⟩)=updN M.W b (some ⟨tb,.leaf nd (M.next:Int),(M.next:Int),false,H2.next⟩):=by
  funext j
  by_cases e:j=b
  ·rw[e,updN_same,updN_same]
  ·rw[updN_ne _ _ e,updN_ne _ _ e,updN_ne _ _ e]
 rw[hW2]at h';exact⟨H2.next,H1.next,b,tb,nd,x,_,o',rfl,h',x1,x2,s1.trans s',hb⟩
def insA(p m:Int):List Int→List Int
 |[]=>[]
 |a::l=>if a=p then a::m::l else a::insA p m l
theorem insA_left{p m:Int}:∀{l r:List Int},p∈l→insA p m (l++r)=insA p m l++r
 |[],_,h=>by simp at h
 |a::l,r,h=>by
  simp only[List.cons_append,insA];split
  ·rfl
  ·rename_i hne;have:p∈l:=by
    rcases List.mem_cons.1 h with e|e
    ·exact absurd e.symm hne
    ·exact e
   rw[insA_left this];rfl
theorem insA_right{p m:Int}:∀{l r:List Int},p∉l→insA p m (l++r)=l++insA p m r
 |[],_,_=>rfl
 |a::l,r,h=>by simp only[List.mem_cons,not_or]at h;simp only[List.cons_append,insA];rw[if_neg (fun e=>h.1 e.symm),insA_right h.2]
theorem insA_mem{p m x:Int}:∀{l:List Int},p∈l→(x∈insA p m l↔x∈l∨x=m)
 |[],h=>by simp at h
 |a::l,h=>by
  simp only[insA];split
  ·simp only[List.mem_cons];constructor
   ·rintro (e|e|e)
    ·exact .inl (.inl e)
    ·exact .inr e
    ·exact .inl (.inr e)
   ·rintro ((e|e)|e)
    ·exact .inl e
    ·exact .inr (.inr e)
    ·exact .inr (.inl e)
  ·rename_i hne;have hp:p∈l:=by
    rcases List.mem_cons.1 h with e|e
    ·exact absurd e.symm hne
    ·exact e
   simp only[List.mem_cons,insA_mem hp];constructor
   ·rintro (e|e|e)
    ·exact .inl (.inl e)
    ·exact .inl (.inr e)
    ·exact .inr e
   ·rintro ((e|e)|e)
    ·exact .inl e
    ·exact .inr (.inl e)
    ·exact .inr (.inr e)
theorem insA_nodup{p m:Int}:∀{l:List Int},p∈l→l.Nodup→m∉l→(insA p m l).Nodup
 |[],h,_,_=>by simp at h
 |a::l,h,hn,hm=>by
  rw[List.nodup_cons]at hn;simp only[List.mem_cons,not_or]at hm;simp only[insA];split
  ·rw[List.nodup_cons,List.nodup_cons];refine⟨?_,hm.2,hn.2⟩;simp only[List.mem_cons,not_or];exact⟨fun e=>hm.1 e.symm,hn.1⟩
  ·rename_i hne;have hp:p∈l:=by
    rcases List.mem_cons.1 h with e|e
    ·exact absurd e.symm hne
    ·exact e
   rw[List.nodup_cons];refine⟨fun e=>?_,insA_nodup hp hn.2 hm.2⟩;rcases (insA_mem hp).1 e with e|e
   ·exact hn.1 e
   ·exact hm.1 e.symm
theorem AT.split_ins(p more:Int)(ac:Bool)(pt:Int)(n1 n2:Nat):∀t:AT,p∈t.panes→(t.split p more ac pt n1 n2).panes=insA p more t.panes
 | .leaf x q,h=>by simp only[AT.panes,List.mem_singleton]at h;subst h;simp[AT.split,AT.panes,insA]
 | .nd x a q l r,h=>by
   unfold AT.split;split
   ·rename_i hl;simp only[AT.panes];rw[AT.split_ins p more ac pt n1 n2 l hl,insA_left hl]
   ·rename_i hl;simp only[AT.panes,List.mem_append]at h;have hr:=h.resolve_left hl;simp only[AT.panes];rw[AT.split_ins p more ac pt n1 n2 r hr,insA_right hl]
theorem AT.split_nodup(p more:Int)(ac:Bool)(pt:Int){n1 n2:Nat}(hne:n1≠n2):∀t:AT,t.dom.Nodup→n1∉t.dom→n2∉t.dom→(t.split p more ac pt n1 n2).dom.Nodup
 | .leaf x q,_,h1,h2=>by simp only[AT.dom,List.mem_singleton]at h1 h2;simp[AT.split,AT.dom,hne];exact⟨fun e=>h1 e.symm,fun e=>h2 e.symm⟩
 | .nd x a q l r,hn,h1,h2=>by
   simp only[AT.dom,List.nodup_cons,List.nodup_append,List.mem_append,List.mem_cons,not_or]at hn h1 h2;obtain⟨d1,d2,d3,d4⟩:=hn;unfold AT.split;split
   ·simp only[AT.dom,List.nodup_cons,List.nodup_append,List.mem_append];refine⟨fun e=>?_,AT.split_nodup p more ac pt hne l d2 h1.2.1 h2.2.1,d3,fun y hy z hz e=>?_⟩
    ·rcases e with e|e
     ·rcases (l.split_dom p more ac pt n1 n2 x).1 e with e|e|e
      ·exact d1.1 e
      ·exact h1.1 e.symm
      ·exact h2.1 e.symm
     ·exact d1.2 e
    ·rcases (l.split_dom p more ac pt n1 n2 y).1 hy with e'|e'|e'
     ·exact d4 y e' z hz e
     ·exact h1.2.2 (by rw[←e',e];exact hz)
     ·exact h2.2.2 (by rw[←e',e];exact hz)
   ·simp only[AT.dom,List.nodup_cons,List.nodup_append,List.mem_append];refine⟨fun e=>?_,d2,AT.split_nodup p more ac pt hne r d3 h1.2.2 h2.2.2,fun y hy z hz e=>?_⟩
    ·rcases e with e|e
     ·exact d1.1 e
     ·rcases (r.split_dom p more ac pt n1 n2 x).1 e with e|e|e
      ·exact d1.2 e
      ·exact h1.1 e.symm
      ·exact h2.1 e.symm
    ·rcases (r.split_dom p more ac pt n1 n2 z).1 hz with e'|e'|e'
     ·exact d4 y hy z e' e
     ·exact h1.2.1 (by rw[←e',←e];exact hy)
     ·exact h2.2.1 (by rw[←e',←e];exact hy)
theorem AT.split_small{p more:Int}{ac:Bool}{pt:Int}{n1 n2:Nat}(h1:0≤p∧p<100)(h2:0≤more∧more<100)(h3:0≤pt∧pt<100):∀{t:AT},t.small→(t.split p more ac pt n1 n2).small
 | .leaf x q,_=>⟨h3,h1,h2⟩
 | .nd x a q l r,⟨s1,s2,s3⟩=>by
   unfold AT.split;split
   ·exact⟨s1,AT.split_small h1 h2 h3 s2,s3⟩
   ·exact⟨s1,s2,AT.split_small h1 h2 h3 s3⟩
theorem AT.small_pane:∀{t:AT},t.small→∀p∈t.panes,0≤p∧p<100
 | .leaf x q,h,p,hp=>by simp only[AT.panes,List.mem_singleton]at hp;rw[hp];exact h
 | .nd x a q l r,⟨_,h1,h2⟩,p,hp=>by
   simp only[AT.panes,List.mem_append]at hp;rcases hp with hp|hp
   ·exact AT.small_pane h1 p hp
   ·exact AT.small_pane h2 p hp
theorem AT.find_inn{p:Int}:∀{t:AT} {b:Rc},b.ok→(t.find p b).2.inn b
 | .leaf _ _,b,_=>Rc.inn_refl _
 | .nd _ ac pt l r,b,h=>by
   obtain⟨o1,o2⟩:=partsP_ok (ac:=ac) (pt:=pt) h;obtain⟨i1,i2⟩:=partsP_inn (ac:=ac) (pt:=pt) h;unfold AT.find;split
   ·exact(AT.find_inn (t:=l) o1).trans i1
   ·exact(AT.find_inn (t:=r) o2).trans i2
def Wn.split(M:Md)(w:Wn)(ac:Bool)(n1 n2:Nat):Wn:={w with t:=w.t.split w.act (M.next:Int) ac (wideP ac (w.t.find w.act (winRc M.rows M.cols)).2/2) n1 n2,act:=(M.next:Int),zm:=false}
theorem Wm.split{M:Md}(h:Wm M){b:Nat}{w:Wn}(hw:M.W b=some w){ac:Bool}{n1 n2:Nat}{x:Pn}(hx:x.win=b)(hn:M.next<100)(hs:splitE w.t w.act ac (winRc M.rows M.cols)=0):Wm {M with next:=M.next+1,W:=updN M.W b (some (w.split M ac n1 n2)),P:=upd M.P (M.next:Int) (some x)}:=by
 have hP:M.P (M.next:Int)=none:=by
  cases e:M.P (M.next:Int)with
  |none=>rfl
  |some y=>have:=(h.nx _ y e).2;omega
 obtain⟨t1,t2,t3,t4,t5⟩:=h.tp b w hw;have hnot:(M.next:Int)∉w.t.panes:=fun e=>by obtain⟨z,z1,_⟩:=t4 _ e;rw[hP]at z1;cases z1
 have hwin:(winRc M.rows M.cols).ok:=winRc_ok ⟨by have:=h.r;omega,by have:=h.c;omega⟩;refine⟨h.r,h.c,fun k y hy=>?_,h.nn,h.sb,h.sl,fun s hs=>?_,fun c v hc=>?_,h.nl⟩
 ·by_cases e:k=(M.next:Int)
  ·subst e;refine⟨by omega,?_⟩;show(M.next:Int)<((M.next+1:Nat):Int);omega
  ·obtain⟨a1,a2⟩:=h.nx k y ((upd_ne _ _ e).symm.trans hy);refine⟨a1,?_⟩;show k<((M.next+1:Nat):Int);omega
 ·obtain⟨a1,a2,a3,a4⟩:=h.wb s hs;refine⟨a1,a2,a3,fun c hc=>?_⟩;obtain⟨v,v1,v2⟩:=a4 c hc;by_cases e:c=b
  ·subst e;rw[hw]at v1;cases v1;exact⟨_,updN_same _ _ _,v2⟩
  ·exact⟨v,(updN_ne _ _ e).trans v1,v2⟩
 ·by_cases e:c=b
  ·subst e;have hv:=(updN_same M.W c (some (w.split M ac n1 n2))).symm.trans hc;cases hv;have hp:=AT.split_ins w.act (M.next:Int) ac (wideP ac (w.t.find w.act (winRc M.rows M.cols)).2/2) n1 n2 w.t t3;have hl:=AT.split_panes w.act (M.next:Int) ac (wideP ac (w.t.find w.act (winRc M.rows M.cols)).2/2) n1 n2 w.t;have h12:w.t.panes.length<12:=by
    unfold splitE at hs;by_cases e:12≤w.t.panes.length
    ·rw[if_pos e]at hs;cases hs
    ·omega
   unfold Wn.split;refine⟨by rw[hp];exact insA_nodup t3 t1 hnot,by rw[hl];omega,by rw[hp];exact(insA_mem t3).2 (.inr rfl),fun p hpm=>?_,AT.split_small (AT.small_pane t5 _ t3) (by omega) ?_ t5⟩
   ·rw[hp]at hpm;rcases (insA_mem t3).1 hpm with e|e
    ·obtain⟨z,z1,z2⟩:=t4 p e;have hne:p≠(M.next:Int):=fun e'=>hnot (e'▸e);exact⟨z,(upd_ne _ _ hne).trans z1,z2⟩
    ·subst e;exact⟨x,upd_same _ _ _,hx⟩
   ·have ok:=AT.find_ok (p:=w.act) (t:=w.t) hwin;obtain⟨i1,i2,i3,i4⟩:=AT.find_inn (p:=w.act) (t:=w.t) hwin;obtain⟨w1,w2⟩:=wideP_ok (ac:=ac) ok;obtain⟨o1,o2,o3,o4,_,_⟩:=ok;have e1:(winRc M.rows M.cols).row=0:=rfl;have e2:(winRc M.rows M.cols).col=0:=rfl;have e3:(winRc M.rows M.cols).rows=M.rows:=rfl;have e4:(winRc M.rows M.cols).cols=M.cols:=rfl;have r2:=h.r;have c2:=h.c;have:wideP ac (w.t.find w.act (winRc M.rows M.cols)).2≤90:=by unfold wideP;split<;>omega
    omega
  ·obtain⟨t1,t2,t3,t4,t5⟩:=h.tp c v ((updN_ne _ _ e).symm.trans hc);refine⟨t1,t2,t3,fun p hp=>?_,t5⟩;obtain⟨z,z1,z2⟩:=t4 p hp;have hne:p≠(M.next:Int):=fun e=>by rw[e,hP]at z1;cases z1
   exact⟨z,(upd_ne _ _ hne).trans z1,z2⟩
theorem MxOk.split{H H':Heap}{o:Ow}{M:Md}(h:MxOk H o M)(hn:M.next<100){b:Nat}{w:Wn}(hw:M.W b=some w){ac:Bool}{n1 n2 p:Nat}{A:GA}(hs:splitE w.t w.act ac (winRc M.rows M.cols)=0)(gm:H'.get M.m=some (.cells [.int .i64 (M.rows:Int),.int .i64 (M.cols:Int),.map (some M.sm),.map (some M.pm),.int .i64 ((M.next+1:Nat):Int),M.bs.v] t_50 false 0 false))(gp:∃es clk,PMap es M.P∧H'.get M.pm=some (.map (es++[(keyI (M.next:Int),P0 p,clk)]) (clk+1)))(gb:H'.get b=some (.cells [P0 w.tb,.int .i64 (M.next:Int),.bool false] t_65 false 0 false))(tr:TR H' (w.split M ac n1 n2).t)(gpp:H'.get p=some (.cells [P0 A.D.p,Sl.nil.v] t_72 false 0 false))(gr:Gr H' A (GP.new M.rows M.cols))(od:H.next≤n1∧n1<n2∧n2<p∧p<H'.next)(hA:∀k,A.foot k→n2<k∧k≠p)(hk:Keep (fun k=>k=(w.t.find w.act (winRc M.rows M.cols)).1.x∨k=b∨k=M.m∨k=M.pm) H H'):∃o',MxOk H' o' {M with next:=M.next+1,W:=updN M.W b (some (w.split M ac n1 n2)),P:=upd M.P (M.next:Int) (some ⟨p,A,GP.new M.rows M.cols,Sl.nil,[],b⟩)}∧St H o H' o':=by
 have wx:=h.hW b w hw;obtain⟨t1,t2,t3,t4,t5⟩:=h.wm.tp b w hw;obtain⟨y,qq,e1,e2,_⟩:=w.t.find_leaf w.act (winRc M.rows M.cols);have ey:(w.t.find w.act (winRc M.rows M.cols)).1.x=y:=by rw[e1];rfl
 rw[ey]at hk;have hk':KT o (fun t=>t=.nd b∨t=.w b∨t=.m∨t=.pm) H H':=hk.mono fun j _ e=>by
  rcases e with e|e|e|e
  ·rw[e];exact .inl (wx.od y e2)
  ·rw[e];exact .inr (.inl wx.ob)
  ·rw[e];exact .inr (.inr (.inl h.om))
  ·rw[e];exact .inr (.inr (.inr h.op))
 have hPn:M.P (M.next:Int)=none:=by
  cases e:M.P (M.next:Int)with
  |none=>rfl
  |some y=>have:=(h.wm.nx _ y e).2;omega
 let o1:Ow:=tagS (tagS (tagS (tagS o A.foot (.g (M.next:Int))) (· =p) (.p (M.next:Int))) (· =n1) (.nd b)) (· =n2) (.nd b)
 have q1:o1 n2=.nd b:=tagS_in rfl;have q2:o1 n1=.nd b:=(tagS_out (by omega)).trans (tagS_in rfl);have q4:o1 p=.p (M.next:Int):=(tagS_out (by omega)).trans ((tagS_out (by omega)).trans (tagS_in rfl));have q5:∀j,A.foot j→o1 j=.g (M.next:Int):=fun j e=>by have:=hA j e;exact(tagS_out (by omega)).trans ((tagS_out (by omega)).trans ((tagS_out (by omega)).trans (tagS_in e)))
 have he:Ex H o o1:=fun j hj=>(tagS_out (by omega)).trans ((tagS_out (by omega)).trans ((tagS_out (by omega)).trans (tagS_out fun e=>by have:=hA j e;omega)));have nz:¬(fun t=>t=Tg.nd b∨t=Tg.w b∨t=Tg.m∨t=Tg.pm) Tg.z:=by simp
 have hdl:=TR.dom_lt wx.tr;refine⟨o1,⟨gm,h.klm hk',(he _ h.lm).trans h.om,h.kgs hk' (by simp),h.kls hk',(he _ h.ls).trans h.os,?_,h.klp hk',(he _ h.lp).trans h.op,h.kbf hk' (by simp),h.kob he,fun s hs=>(h.hS s hs).keep hk' he (by simp) (by simp),fun c v hv=>?_,fun j y hy=>?_,h.wm.split hw rfl hn hs,h.ktab hk' nz,h.ko5 he,fun j hj=>?_⟩,St.of hk' he nz⟩
 ·obtain⟨es,clk,h1,h2⟩:=gp;exact⟨_,_,h2,h1.add hPn ⟨p,A,GP.new M.rows M.cols,Sl.nil,[],b⟩ clk⟩
 ·by_cases e:c=b
  ·subst e;have hv':=(updN_same M.W c (some (w.split M ac n1 n2))).symm.trans hv;cases hv';refine⟨gb,by have:=wx.lt;have:=hk.1;omega,(he _ wx.lt).trans wx.ob,?_,by have:=wx.tl;have:=hk.1;show w.tb<_;omega,(he _ wx.tl).trans wx.ot,tr,fun j hj=>?_,?_⟩
   ·show H'.get w.tb=some (.cells [P0 (w.split M ac n1 n2).t.x] t_114 false 0 false);rw[show(w.split M ac n1 n2).t.x=w.t.x from AT.split_x _ _ _ _ _ _ _];exact(hk'.2 _ wx.tl (owt (T:=fun t=>t=.nd c∨t=.w c∨t=.m∨t=.pm) wx.ot (by simp))).trans wx.gt
   ·rcases (w.t.split_dom _ _ _ _ n1 n2 j).1 hj with e|e|e
    ·exact(he j (hdl j e)).trans (wx.od j e)
    ·rw[e];exact q2
    ·rw[e];exact q1
   ·exact AT.split_nodup _ _ _ _ (by omega) _ wx.nd (fun e=>by have:=hdl _ e;omega) (fun e=>by have:=hdl _ e;omega)
  ·have hv':M.W c=some v:=(updN_ne _ _ e).symm.trans hv;exact(h.hW c v hv').keep hk' he (by simp[e]) (by simp) (by simp[e])
 ·by_cases e:j=(M.next:Int)
  ·subst e;have hy':=(upd_same M.P (M.next:Int) (some ⟨p,A,GP.new M.rows M.cols,Sl.nil,[],b⟩)).symm.trans hy;cases hy';exact⟨gpp,by show p<_;omega,q4,gr,q5,Tl.nil _,fun j e=>absurd e Sl.at_nil,by simp⟩
  ·have hy':M.P j=some y:=(upd_ne _ _ e).symm.trans hy;exact(h.hP j y hy').keep hk' he (by simp) (by simp) (by simp)
 ·have hn':=hk.1;exact(tagS_out (by omega)).trans ((tagS_out (by omega)).trans ((tagS_out (by omega)).trans ((tagS_out fun e=>by have:=gr.lt e;omega).trans (h.oz j (by omega)))))
section
variable{H:Heap}{o:Ow}{M:Md}(h:MxOk H o M)
include h
theorem Split_x(d:Nat)(hn:M.next<100){n:W}{s:Sn}{b:Nat}{w:Wn}(hc:cur M n s b w)(ac:Bool):(splitE w.t w.act ac (winRc M.rows M.cols)≠0∧∃H',X (d+42) n_9 [P0 M.m,.string (S n),.bool ac] H=some (.int .i64 (splitE w.t w.act ac (winRc M.rows M.cols)),H')∧Keep0 H H')∨(splitE w.t w.act ac (winRc M.rows M.cols)=0∧∃n1 n2 x H' o' P',X (d+42) n_9 [P0 M.m,.string (S n),.bool ac] H=some (.int .i64 0,H')∧MxOk H' o' {M with next:=M.next+1,W:=updN M.W b (some (w.split M ac n1 n2)),P:=P'}∧St H o H' o'∧x.q=GP.new M.rows M.cols∧x.qu=[]∧x.win=b∧FitR M (w.split M ac n1 n2) (upd M.P (M.next:Int) (some x)) P' ((w.split M ac n1 n2).t.panes.zip ((w.split M ac n1 n2).t.places (winRc M.rows M.cols)))):=by
 have hw:=hc.2.2.1;have wx:=h.hW b w hw;obtain⟨r1,r2⟩:=h.wm.r;obtain⟨c1,c2⟩:=h.wm.c;obtain⟨t1,t2,t3,t4,t5⟩:=h.wm.tp b w hw;have hPn:M.P (M.next:Int)=none:=by
  cases e:M.P (M.next:Int)with
  |none=>rfl
  |some y=>have:=(h.wm.nx _ y e).2;omega
 have hnot:(M.next:Int)∉w.t.panes:=fun e=>by obtain⟨z,z1,_⟩:=t4 _ e;rw[hPn]at z1;cases z1
 rw[mux_Mux_Split_eq,window_c h (d+40) hc];simp only[callK_s,P0,asP_s];rw[if_neg (by simp)];simp only[nilP_s,ap_0,ap_1];rw[(ld1_s wx.get).trans (show _=some (P0 w.tb)from rfl)];simp only[optK_s,P0,asP_s];rw[(ld1_s wx.get).trans (show _=some (Value.int .i64 w.act)from rfl)];simp only[optK_s,asI_s];rw[h.l4];simp only[optK_s,asI_s];rw[h.l0];simp only[optK_s,asI_s];rw[h.l1];simp only[optK_s,asI_s];have hht:=w.t.ht_lt;obtain⟨d',hd⟩:∃d',d+41=2+(w.t.ht+(2+d'))+1+1+1+1+1+1:=⟨d+31-w.t.ht,by omega⟩;obtain⟨H1,e1,k1⟩:=lySplit_s d' M.rows M.cols ⟨by omega,by omega⟩ w.act (M.next:Int) ac wx.gt wx.tl wx.tr wx.nd (by omega) (by omega) t3 hnot;rw[show X (d+41) n_19 [.pointer (some ⟨w.tb,0,none⟩),.int .i64 w.act,.int .i64 (M.next:Int),.bool ac,.int .i64 (M.rows:Int),.int .i64 (M.cols:Int)] H=some (.int .i64 (splitE w.t w.act ac (winRc M.rows M.cols)),H1)from by rw[hd];exact e1];simp only[callK_s,asI_s];rcases k1 with ⟨hs,k1⟩|⟨hs,n1,n2,tr1,o1,o2,o3,k1⟩
 ·refine .inl ⟨hs,H1,?_,k1⟩;rw[if_pos (by simp[hs])]
 ·refine .inr ⟨hs,?_⟩;rw[if_neg (by simp[hs])];obtain⟨y,qq,e1',e2',_⟩:=w.t.find_leaf w.act (winRc M.rows M.cols);have ey:(w.t.find w.act (winRc M.rows M.cols)).1.x=y:=by rw[e1'];rfl
  have oy:=wx.od y e2';have hyb:b≠y:=fun e=>by have:=wx.ob;rw[e,oy]at this;cases this
  have hym:M.m≠y:=fun e=>by have:=h.om;rw[e,oy]at this;cases this
  have hyp:M.pm≠y:=fun e=>by have:=h.op;rw[e,oy]at this;cases this
  have hbm:M.m≠b:=fun e=>by have:=h.om;rw[e,wx.ob]at this;cases this
  have hbp:M.pm≠b:=fun e=>by have:=h.op;rw[e,wx.ob]at this;cases this
  have hmp:M.m≠M.pm:=fun e=>by have:=h.om;rw[e,h.op]at this;cases this
  have wlt:=wx.lt;have mlt:=h.lm;have plt:=h.lp;have k1':Keep (fun k=>k=y) H H1:=k1.mono fun k _ e=>e.trans ey;have m1:=k1.1;have gm1:=(k1'.2 M.m mlt hym).trans h.gm;have gb1:=(k1'.2 b wlt hyb).trans wx.get;rw[(ld1_s gm1).trans (show _=some (Value.int .i64 (M.next:Int))from rfl)];simp only[optK_s,asI_s];rw[show(0+1:Nat)=1 from rfl,(st1_s (v:=.int .i64 (M.next:Int)) gb1 (by show 1<3;omega) (by omega)).trans (show _=some (H1.put b (.cells [P0 w.tb,.int .i64 (M.next:Int),.bool w.zm] t_65 false 0 false))from rfl)];simp only[optK_s];have k2:Keep (fun k=>k=b) H1 (H1.put b (.cells [P0 w.tb,.int .i64 (M.next:Int),.bool w.zm] t_65 false 0 false)):=Keep.put _ _ _ rfl;have g2:(H1.put b (.cells [P0 w.tb,.int .i64 (M.next:Int),.bool w.zm] t_65 false 0 false)).get b=some (.cells [P0 w.tb,.int .i64 (M.next:Int),.bool w.zm] t_65 false 0 false):=by simp
  have n2':(H1.put b (.cells [P0 w.tb,.int .i64 (M.next:Int),.bool w.zm] t_65 false 0 false)).next=H1.next:=rfl
  generalize H1.put b (.cells [P0 w.tb,.int .i64 (M.next:Int),.bool w.zm] t_65 false 0 false)=H2 at*;rw[show ap ⟨b,0,none⟩ 2=⟨b,2,none⟩from rfl,(st1_s (v:=.bool false) g2 (by show 2<3;omega) (by omega)).trans (show _=some (H2.put b (.cells [P0 w.tb,.int .i64 (M.next:Int),.bool false] t_65 false 0 false))from rfl)];simp only[optK_s];have k3:Keep (fun k=>k=b) H2 (H2.put b (.cells [P0 w.tb,.int .i64 (M.next:Int),.bool false] t_65 false 0 false)):=Keep.put _ _ _ rfl;have g3:(H2.put b (.cells [P0 w.tb,.int .i64 (M.next:Int),.bool false] t_65 false 0 false)).get b=some (.cells [P0 w.tb,.int .i64 (M.next:Int),.bool false] t_65 false 0 false):=by simp
  have n3':(H2.put b (.cells [P0 w.tb,.int .i64 (M.next:Int),.bool false] t_65 false 0 false)).next=H2.next:=rfl
  generalize H2.put b (.cells [P0 w.tb,.int .i64 (M.next:Int),.bool false] t_65 false 0 false)=H3 at*;have k13:Keep (fun k=>k=b) H1 H3:=k2.trans k3 fun _ _ e=>e;have k03:Keep (fun k=>k=y∨k=b) H H3:=(k1'.mono (T:=fun k=>k=y∨k=b) fun _ _ e=>.inl e).trans k13 fun _ _ e=>.inr e;obtain⟨es,clk,gpm,hpm⟩:=h.gp;obtain⟨p,A,H4,e4,a1,a2,a3,a4,a5,a6,a7,a8⟩:=make_s (d+33) M.rows M.cols M.next ⟨r1,r2⟩ (show 1≤M.cols∧M.cols≤120 by omega) (by omega) (show 3<H3.next by have:=h.tab.lt;omega) ((k03.2 M.m mlt (by omega)).trans h.gm) (by omega) ((k03.2 M.pm plt (by omega)).trans gpm) (by omega) hmp (hpm.fnone hPn)
  rw[show X (d+41) n_20 [.pointer (some ⟨M.m,0,none⟩)] H3=_ from e4];simp only[callK_s];have m4:=a8.1;have ndom:∀j∈(w.split M ac n1 n2).t.dom,j≠b∧j≠M.m∧j≠M.pm∧j<H1.next:=fun j hj=>by
   rcases (w.t.split_dom _ _ _ _ n1 n2 j).1 hj with e|e|e
   ·have h1:=wx.od j e;have h2:=TR.dom_lt wx.tr j e;refine⟨fun e'=>?_,fun e'=>?_,fun e'=>?_,by omega⟩
    ·rw[e',wx.ob]at h1;cases h1
    ·rw[e',h.om]at h1;cases h1
    ·rw[e',h.op]at h1;cases h1
   ·omega
   ·omega
  obtain⟨o4,h4,s4⟩:=h.split (H':=H4) hn hw (ac:=ac) (n1:=n1) (n2:=n2) (p:=p) (A:=A) hs a1 ⟨es,clk,hpm,a2⟩ ((a8.2 b (by omega) (by omega)).trans g3) (TR.keep a8 (TR.keep k13 tr1 fun j hj e=>(ndom j hj).1 e) fun j hj e=>by have:=ndom j hj;omega) a3 a6 (by omega) (fun k e=>by have:=a7 k e;omega) (by rw[ey];exact(k03.mono (T:=fun k=>k=y∨k=b∨k=M.m∨k=M.pm) fun _ _ e=>by rcases e with e|e;exact .inl e;exact .inr (.inl e)).trans a8 fun _ _ e=>.inr (.inr e));obtain⟨H5,o5,P5,e5,h5,s5,f5⟩:=fit_x d h4 (b:=b) (updN_same _ _ _);rw[show X (d+41) n_17 [.pointer (some ⟨M.m,0,none⟩),.pointer (some ⟨b,0,none⟩)] H4=_ from e5];simp only[callK_s];exact⟨n1,n2,⟨p,A,GP.new M.rows M.cols,Sl.nil,[],b⟩,H5,o5,P5,rfl,h5,s4.trans s5,rfl,rfl,rfl,f5⟩
end
section
variable{H:Heap}{o:Ow}{M:Md}(h:MxOk H o M)
include h
theorem pick_x(d:Nat){n:W}{s:Sn}{b:Nat}{w:Wn}(hc:cur M n s b w)(k:Int):∃H',Keep0 H H'∧X (d+31) n_16 [P0 M.m,.string (S n),.int .i64 k] H=some (match(if k<0 then none else w.t.panes[k.toNat]?)with
 |none=>.tuple #[.pointer none,.int .i64 0,.int .i64 3]
 |some p=>.tuple #[P0 b,.int .i64 p,.int .i64 0],H'):=by
 have hw:=hc.2.2.1;have wx:=h.hW b w hw;obtain⟨t1,t2,t3,t4,t5⟩:=h.wm.tp b w hw;rw[mux_Mux_pick_eq,window_c h (d+29) hc];simp only[callK_s,P0,asP_s];rw[if_neg (by simp)];simp only[nilP_s,ap_0];rw[(ld1_s wx.get).trans (show _=some (P0 w.tb)from rfl)];simp only[optK_s,P0,asP_s];have hht:=w.t.ht_lt;obtain⟨d',hd⟩:∃d',d+30=2+(w.t.ht+(2+d'))+1+1:=⟨d+24-w.t.ht,by omega⟩;obtain⟨y,H1,e1,w1,k1,f1⟩:=lyPanes_s d' wx.gt wx.tl wx.tr (by omega);rw[show X (d+30) n_25 [.pointer (some ⟨w.tb,0,none⟩)] H=some (y.v,H1)from by rw[hd];exact e1];simp only[callK_s,asSL_k];have hyn:y.n=w.t.panes.length:=by have:=(Whole.len w1).1;rw[List.length_map]at this;omega
 refine⟨H1,k1,?_⟩;by_cases h0:k<0
 ·rw[if_pos (show decide (k<0)=true from decide_eq_true h0),j2h_eq,if_pos rfl,if_pos h0]
 ·rw[if_neg (show¬decide (k<0)=true by simpa using h0),j2h_eq,if_neg h0];by_cases hl:(y.n:Int)≤k
  ·rw[if_pos (show decide ((y.n:Int)≤k)=true from decide_eq_true hl),List.getElem?_eq_none (by omega)]
  ·rw[if_neg (show¬decide ((y.n:Int)≤k)=true by simpa using hl)];have hk:w.t.panes[k.toNat]?=some w.t.panes[k.toNat]:=List.getElem?_eq_getElem (by omega);rw[hk];obtain⟨bb,eb,lb⟩:=lyIntAt w1 hk;rw[eb];simp only[optK_s];rw[show(((k.toNat:Nat):Int)).toNat=k.toNat from rfl]at lb;rw[if_pos (show 0≤k∧k<(y.n:Int)by omega),lb];simp only[optK_s,asI_s]
def Wn.sel(w:Wn)(p:Int):Wn:={w with act:=p,zm:=w.zm&&decide (p=w.act)}
theorem SelectPane_x(d:Nat){n:W}{s:Sn}{b:Nat}{w:Wn}(hc:cur M n s b w)(k:Int):
  ((if k<0 then none else w.t.panes[k.toNat]?)=none∧∃H',X (d+42) n_8 [P0 M.m,.string (S n),.int .i64 k] H=some (.int .i64 3,H')∧Keep0 H H')∨
  (∃p H' o' P',(if k<0 then none else w.t.panes[k.toNat]?)=some p∧X (d+42) n_8 [P0 M.m,.string (S n),.int .i64 k] H=some (.int .i64 0,H')∧MxOk H' o' {M with W:=updN M.W b (some (w.sel p)),P:=P'}∧St H o H' o'∧FitR M (w.sel p) M.P P' (w.t.panes.zip (w.t.places (winRc M.rows M.cols)))):=by
 have hw:=hc.2.2.1;obtain⟨H1,k1,e1⟩:=pick_x h (d+10) hc k;rw[mux_Mux_SelectPane_eq,show X (d+41) n_16 [P0 M.m,.string (S n),.int .i64 k] H=_ from e1];cases hp:(if k<0 then none else w.t.panes[k.toNat]?)with
 |none=>simp only[callK_s,castT_s,castL_c,castL_n,cast0,asP_s,asI_s,optK_s,List.getElem?_cons_zero,List.getElem?_cons_succ];rw[if_pos (by decide)];exact .inl ⟨trivial,H1,rfl,k1⟩
 |some p=>
  refine .inr ?_;have hpm:p∈w.t.panes:=by
   split at hp
   ·cases hp
   ·exact List.mem_of_getElem? hp
  simp only[callK_s,castT_s,castL_c,castL_n,cast0,P0,asP_s,asI_s,optK_s,List.getElem?_cons_zero,List.getElem?_cons_succ];rw[if_neg (by decide)];have h1:=h.new k1;have wx:=h1.hW b w hw;simp only[nilP_s];rw[show ap ⟨b,0,none⟩ 2=⟨b,2,none⟩from rfl,(ld1_s wx.get).trans (show _=some (Value.bool w.zm)from rfl)];simp only[optK_s,asB_s];have fin:∀zm':Bool,zm'=(w.zm&&decide (p=w.act))→∃H' o' P',j2a (d+41) M.m (some ⟨b,0,none⟩) p (H1.put b (.cells [P0 w.tb,.int .i64 w.act,.bool zm'] t_65 false 0 false))=some (.int .i64 0,H')∧MxOk H' o' {M with W:=updN M.W b (some (w.sel p)),P:=P'}∧St H o H' o'∧FitR M (w.sel p) M.P P' (w.t.panes.zip (w.t.places (winRc M.rows M.cols))):=by
   intro zm' hz;obtain⟨t1,t2,t3,t4,t5⟩:=h1.wm.tp b w hw;obtain⟨h2,s2⟩:=h1.win hw (act:=w.act) (zm:=zm') t3;have hW2:({M with W:=updN M.W b (some {w with act:=w.act,zm:=zm'})}:Md).W b=some {w with act:=w.act,zm:=zm'}:=updN_same _ _ _;have wx2:=h2.hW b _ hW2;rw[j2a_eq];simp only[nilP_s,ap_1];rw[show(0+1:Nat)=1 from rfl,(st1_s (v:=.int .i64 p) wx2.get (by show 1<3;omega) (by omega)).trans (show _=some ((H1.put b (.cells [P0 w.tb,.int .i64 w.act,.bool zm'] t_65 false 0 false)).put b (.cells [P0 w.tb,.int .i64 p,.bool zm'] t_65 false 0 false))from rfl)];simp only[optK_s];obtain⟨h3,s3⟩:=h2.win hW2 (act:=p) (zm:=zm') hpm;have hWe:updN (updN M.W b (some {w with act:=w.act,zm:=zm'})) b (some {({w with act:=w.act,zm:=zm'}:Wn)with act:=p,zm:=zm'})=updN M.W b (some (w.sel p)):=by
    funext j
    by_cases e:j=b
    ·rw[e,updN_same,updN_same,hz];rfl
    ·rw[updN_ne _ _ e,updN_ne _ _ e,updN_ne _ _ e]
   have h3':MxOk ((H1.put b (.cells [P0 w.tb,.int .i64 w.act,.bool zm'] t_65 false 0 false)).put b (.cells [P0 w.tb,.int .i64 p,.bool zm'] t_65 false 0 false)) o {M with W:=updN M.W b (some (w.sel p))}:=by rw[←hWe];exact h3
   obtain⟨H4,o4,P4,e4,h4,s4,f4⟩:=fit_x d h3' (b:=b) (w:=w.sel p) (updN_same _ _ _);rw[show X (d+41) n_17 [P0 M.m,.pointer (some ⟨b,0,none⟩)] _=_ from e4];simp only[callK_s];exact⟨H4,o4,P4,rfl,h4,(((St.new k1).trans s2).trans s3).trans s4,f4⟩
  by_cases hz:w.zm=true
  ·rw[if_pos hz,show ap ⟨b,0,none⟩ 1=⟨b,1,none⟩from rfl,(ld1_s wx.get).trans (show _=some (Value.int .i64 w.act)from rfl)];simp only[optK_s,asI_s];rw[(st1_s (v:=.bool (decide (p=w.act))) wx.get (by show 2<3;omega) (by omega)).trans (show _=some (H1.put b (.cells [P0 w.tb,.int .i64 w.act,.bool (decide (p=w.act))] t_65 false 0 false))from rfl)];simp only[optK_s];obtain⟨H',o',P',e',a⟩:=fin (decide (p=w.act)) (by rw[hz];rfl);exact⟨p,H',o',P',rfl,e',a⟩
  ·have hz':w.zm=false:=by simpa using hz
   rw[if_neg hz,(st1_s (v:=.bool false) wx.get (by show 2<3;omega) (by omega)).trans (show _=some (H1.put b (.cells [P0 w.tb,.int .i64 w.act,.bool false] t_65 false 0 false))from rfl)];simp only[optK_s];obtain⟨H',o',P',e',a⟩:=fin false (by rw[hz'];rfl);exact⟨p,H',o',P',rfl,e',a⟩
end
theorem Pick_s(d:Nat)(n:Int)(m:Nat)(H:Heap)(hm:0<m)(hm2:m≤1048576):∃r:Nat,X (d+1) n_4 [.int .i64 n,.int .i64 (m:Int)] H=some (.int .i64 (r:Int),H)∧r<m:=by
 rw[hand_Pick_eq,if_neg (by omega)];have h1:=Int.tmod_lt_of_pos n (show(0:Int)<(m:Int)by omega);have h2: -(m:Int)<Int.tmod n m:=by have:=Int.lt_tmod_of_pos n (show(0:Int)<(m:Int)by omega);omega
 simp only[decide_eq_true_eq];by_cases h:Int.tmod n m<0
 ·rw[if_pos h,w64 (by omega)];exact⟨(Int.tmod n m+m).toNat,by rw[Int.toNat_of_nonneg (by omega)],by omega⟩
 ·rw[if_neg h];exact⟨(Int.tmod n m).toNat,by rw[Int.toNat_of_nonneg (by omega)],by omega⟩
def Ints(H:Heap)(x:Sl)(l:List Int):Prop:=x.n≤l.length∧∀(i:Nat) n,i<x.n→l[i]?=some n→∃b o,x.a=some ⟨b,o,none⟩∧b<H.next∧H.ld1 ⟨b,o+i,none⟩=some (.int .i64 n)
theorem wu8{n:Int}(h:0≤n∧n<256):IntKind.wrap .u8 n=n:=by unfold IntKind.wrap;simp only[IntKind.signed,IntKind.bits];simp;omega
theorem one_byte(H:Heap)(b:UInt8):readD .bytesStr [.slice (some ⟨H.next,0,none⟩) 1 1] (H.new (.cells [.int .u8 (b.toNat:Int)] t_5 false 0 false))=some (.string (S [b])):=by have w:Whole (H.new (.cells [.int .u8 (b.toNat:Int)] t_5 false 0 false)) ⟨some ⟨H.next,0,none⟩,1,1⟩ (bytes [b]) t_5 1:=.inr ⟨H.next,1,rfl,rfl,by simp,false,false,by simp;rfl⟩;exact(HV.of w).str
theorem Ints.new{H H':Heap}{x:Sl}{l:List Int}(h:Ints H x l)(k:Keep0 H H'):Ints H' x l:=⟨h.1,fun i n hi hn=>by obtain⟨b,o,h1,h2,h3⟩:=h.2 i n hi hn;refine⟨b,o,h1,Nat.lt_of_lt_of_le h2 k.1,?_⟩;have e:=k.2 b h2 id;unfold Heap.ld1 at h3⊢;simp only[e];exact h3⟩
theorem if_len{α:Type}{a b:W}(h:a.length+b.length≤9223372036854775807)(x y:α):(if slen (S a)+slen (S b)≤9223372036854775807 then x else y)=x:=by rw[slenS,slenS,if_pos h]
theorem digs_len(n:Nat):(digs n).length≤2:=by unfold digs;split<;>simp
structure PTab(H:Heap):Prop where
 p:∃c e o z st,H.get 0=some (.cells c e o z st)∧∀i,i<34→∃w:W,w.length≤100∧c[i]?=some (.string (S w))
 m:∃c e o z st,H.get 1=some (.cells c e o z st)∧∀i,i<22→∃w:W,w.length≤100∧c[i]?=some (.string (S w))
 lt:1<H.next
theorem PTab.keep{S:Nat→Prop}{H H':Heap}(t:PTab H)(hk:Keep S H H')(h2:¬S 0)(h3:¬S 1):PTab H':=by obtain⟨⟨c,e,o,z,st,h,hc⟩,⟨c',e',o',z',st',h',hc'⟩,hl⟩:=t;exact⟨⟨c,e,o,z,st,(hk.2 0 (by omega) h2).trans h,hc⟩,⟨c',e',o',z',st',(hk.2 1 hl h3).trans h',hc'⟩,Nat.lt_of_lt_of_le hl hk.1⟩
theorem PTab.ldp{H:Heap}(t:PTab H){i:Nat}(hi:i<34):∃w:W,w.length≤100∧Heap.ld1 H ⟨0,0+((i:Int)).toNat*1,none⟩=some (.string (S w)):=by obtain⟨l,e,o,z,st,h,hc⟩:=t.p;obtain⟨w,h1,h2⟩:=hc i hi;exact⟨w,h1,by rw[show(0+((i:Int)).toNat*1:Nat)=i by simp,ld1_s h,h2]⟩
theorem PTab.ldm{H:Heap}(t:PTab H){i:Nat}(hi:i<22):∃w:W,w.length≤100∧Heap.ld1 H ⟨1,0+((i:Int)).toNat*1,none⟩=some (.string (S w)):=by obtain⟨l,e,o,z,st,h,hc⟩:=t.m;obtain⟨w,h1,h2⟩:=hc i hi;exact⟨w,h1,by rw[show(0+((i:Int)).toNat*1:Nat)=i by simp,ld1_s h,h2]⟩
theorem num1_s(d:Nat){n:Nat}(hn:n<10)(H:Heap):∃H',X (d+1) n_22 [.int .i64 (n:Int)] H=some (.string (S [UInt8.ofNat (48+n)]),H')∧Keep0 H H':=by
 rw[hand_number_eq,if_pos (show decide ((n:Int)<10)=true from decide_eq_true (by omega))];have hb:IntKind.wrap .u8 (IntKind.wrap .i64 (48+(n:Int)))=((UInt8.ofNat (48+n)).toNat:Int):=by rw[ofNat_toNat (by omega),w64 (by omega),wu8 (by omega)];omega
 rw[hb];simp only[newK_s];rw[one_byte];simp only[optK_s,asS_s];exact⟨_,rfl,Keep.new _ _⟩
theorem number_s(d:Nat){n:Nat}(hn:n<100)(H:Heap):∃H',X (d+2) n_22 [.int .i64 (n:Int)] H=some (.string (S (digs n)),H')∧Keep0 H H':=by
 unfold digs;by_cases h:n<10
 ·rw[if_pos h];exact num1_s (d+1) h H
 ·rw[if_neg h,hand_number_eq,if_neg (show¬decide ((n:Int)<10)=true from dneg (by omega))];have h1:IntKind.wrap .i64 (Int.tdiv (n:Int) 10)=((n/10:Nat):Int):=by rw[Int.tdiv_eq_ediv_of_nonneg (by omega),w64 (by omega)];omega
  have h2:Int.tmod (n:Int) 10=((n%10:Nat):Int):=by rw[Int.tmod_eq_emod_of_nonneg (by omega)];omega
  rw[h1,h2];obtain⟨H1,e1,k1⟩:=num1_s d (n:=n/10) (by omega) H;rw[e1];simp only[callK_s,asS_s];obtain⟨H2,e2,k2⟩:=num1_s d (n:=n%10) (by omega) H1;rw[e2];simp only[callK_s,asS_s];rw[slenS,slenS,if_pos (by simp),sCatS];exact⟨H2,rfl,k1.trans k2⟩
theorem output_loop(e:Nat){H0:Heap}(pt:PTab H0){x0:Sl}{l:List Int}(hx:Ints H0 x0 l){R:Nat}(hR:R≤90):∀(m i:Nat) {H:Heap} {s:W},81-i<m→i≤80→s.length≤200*i→Keep0 H0 H→
  ∃w H',j25 (e+2) m x0 (R:Int) (S s) (i:Int) H=some (.string (S w),H')∧w.length≤16000∧Keep0 H0 H':=fun m=>by
 induction m with
 |zero=>intro i H s hm;omega
 |succ m ih=>
  intro i H s hm hi hs k;have last:∃w H',j13 (e+2) m x0 (R:Int) (S s) (i:Int) false H=some (.string (S w),H')∧w.length≤16000∧Keep0 H0 H':=by rw[j13_eq,if_neg ff];exact⟨s,H,rfl,by omega,k⟩
  rw[j25_s];by_cases c0:(i:Int)<(x0.n:Int)
  ·rw[if_pos (show decide ((i:Int)<(x0.n:Int))=true from decide_eq_true c0)];by_cases c1:i<80
   ·rw[show decide ((i:Int)<80)=true from decide_eq_true (by omega),j13_eq,if_pos rfl];obtain⟨v,hv⟩:∃v,l[i]?=some v:=⟨l[i]'(by have:=hx.1;omega),List.getElem?_eq_getElem _⟩;obtain⟨b,o,ha,_,hl⟩:=(hx.new k).2 i v (by omega) hv;rw[ha];simp only[optK_s];rw[if_pos (show(0:Int)≤(i:Int)∧(i:Int)<(x0.n:Int)by omega),show ap ⟨b,o,none⟩ (((i:Int).toNat)*1)=⟨b,o+i,none⟩by simp[ap],hl];simp only[optK_s,asI_s];obtain⟨n,en,hn⟩:=Pick_s (e+1) v 64 H (by omega) (by omega);rw[show X (e+2) n_4 [.int .i64 v,.int .i64 64] H=_ from en];simp only[callK_s,asI_s];have next:∀{H1:Heap} {w:W},w.length≤200→Keep0 H0 H1→∃w' H',ji (e+2) m x0 (R:Int) (S (s++w)) (i:Int) H1=some (.string (S w'),H')∧w'.length≤16000∧Keep0 H0 H':=fun{H1 w} hw k1=>by rw[ji_eq,wi (by omega)];exact ih (i+1) (by omega) (by omega) (by rw[List.length_append];omega) k1
    have pt1:PTab H:=pt.keep k id id;by_cases n34:n<34
    ·rw[if_pos (show decide ((n:Int)<34)=true from decide_eq_true (by omega)),if_pos (show(0:Int)≤(n:Int)∧(n:Int)<34 by omega)];obtain⟨w,hw,el⟩:=pt1.ldp n34;rw[el];simp only[optK_s,asS_s];rw[if_len (a:=s) (b:=w) (by omega),sCatS];exact next (by omega) k
    rw[if_neg (show¬decide ((n:Int)<34)=true from dneg (by omega))];by_cases n56:n<56
    ·rw[if_pos (show decide ((n:Int)<56)=true from decide_eq_true (by omega)),show IntKind.wrap .i64 ((n:Int)-34)=((n-34:Nat):Int)by rw[w64 (by omega)];omega,if_pos (show(0:Int)≤((n-34:Nat):Int)∧((n-34:Nat):Int)<22 by omega)];obtain⟨w,hw,el⟩:=pt1.ldm (i:=n-34) (by omega);rw[el];simp only[optK_s,asS_s];rw[if_len (a:=s) (b:=w) (by omega),sCatS];exact next (by omega) k
    rw[if_neg (show¬decide ((n:Int)<56)=true from dneg (by omega))];by_cases n59:n<59
    ·rw[if_pos (show decide ((n:Int)<59)=true from decide_eq_true (by omega)),if_len (a:=s) (b:=[27,91]) (by simp;omega),sCatS];rw[show IntKind.wrap .i64 ((R:Int)+2)=((R+2:Nat):Int)by rw[w64 (by omega)];omega,show IntKind.wrap .i64 ((R:Int)+3)=((R+3:Nat):Int)by rw[w64 (by omega)];omega];obtain⟨p,e1,h1⟩:=Pick_s (e+1) (IntKind.wrap .i64 (Int.tdiv v 64)) (R+2) H (by omega) (by omega);rw[e1];simp only[callK_s,asI_s];obtain⟨H2,e2,k2⟩:=number_s e (n:=p) (by omega) H;have d1:=digs_len p;rw[e2];simp only[callK_s,asS_s];rw[if_len (a:=s++[27,91]) (b:=digs p) (by simp;omega),sCatS,if_len (a:=s++[27,91]++digs p) (b:=[59]) (by simp;omega),sCatS];obtain⟨q,e3,h3⟩:=Pick_s (e+1) (IntKind.wrap .i64 (Int.tdiv v 640)) (R+3) H2 (by omega) (by omega);rw[e3];simp only[callK_s,asI_s];obtain⟨H4,e4,k4⟩:=number_s e (n:=q) (by omega) H2;have d2:=digs_len q;rw[e4];simp only[callK_s,asS_s];rw[if_len (a:=s++[27,91]++digs p++[59]) (b:=digs q) (by simp;omega),sCatS,if_len (a:=s++[27,91]++digs p++[59]++digs q) (b:=[114]) (by simp;omega),sCatS];have:=next (H1:=H4) (w:=[27,91]++digs p++[59]++digs q++[114]) (by simp;omega) ((k.trans k2).trans k4)
     simpa using this
    rw[if_neg (show¬decide ((n:Int)<59)=true from dneg (by omega)),if_len (a:=s) (b:=[27,91]) (by simp;omega),sCatS];obtain⟨p,e1,h1⟩:=Pick_s (e+1) (IntKind.wrap .i64 (Int.tdiv v 64)) 12 H (by omega) (by omega);rw[show X (e+2) n_4 [.int .i64 (IntKind.wrap .i64 (Int.tdiv v 64)),.int .i64 12] H=_ from e1];simp only[callK_s,asI_s];obtain⟨H2,e2,k2⟩:=number_s e (n:=p) (by omega) H;have d1:=digs_len p;rw[e2];simp only[callK_s,asS_s];rw[if_len (a:=s++[27,91]) (b:=digs p) (by simp;omega),sCatS];obtain⟨q,e3,h3⟩:=Pick_s (e+1) (IntKind.wrap .i64 (Int.tdiv v 800)) 18 H2 (by omega) (by omega);rw[show X (e+2) n_4 [.int .i64 (IntKind.wrap .i64 (Int.tdiv v 800)),.int .i64 18] H2=_ from e3];simp only[callK_s,asI_s];generalize hL:([65,66,67,68,69,70,71,100,76,77,64,80,88,83,84,74,75,109]:W)=L;have hLl:L.length=18:=by rw[←hL];rfl
    have hc:L[q]?=some (L[q]'(by omega)):=List.getElem?_eq_getElem (by omega);generalize (L[q]'(by omega))=c at hc;rw[slenS,hLl,if_pos (show(0:Int)≤(q:Int)∧(q:Int)<((18:Nat):Int)by omega),Int.toNat_natCast,btS hc];simp only[newK_s];rw[one_byte];simp only[optK_s,asS_s];rw[if_len (a:=s++[27,91]++digs p) (b:=[c]) (by simp;omega),sCatS];have:=next (H1:=H2.new (.cells [.int .u8 (c.toNat:Int)] t_5 false 0 false)) (w:=[27,91]++digs p++[c]) (by simp;omega) ((k.trans k2).trans (Keep.new _ _))
    simpa using this
   ·rw[show decide ((i:Int)<80)=false from decide_eq_false (by omega)];exact last
  ·rw[if_neg (show¬decide ((i:Int)<(x0.n:Int))=true from dneg c0)];exact last
theorem Output_s(e:Nat){H:Heap}(pt:PTab H){x0:Sl}{l:List Int}(hx:Ints H x0 l){R:Nat}(hR:R≤90):∃w H',X (e+3) n_11 [x0.v,.int .i64 (R:Int)] H=some (.string (S w),H')∧w.length≤16000∧Keep0 H H':=by rw[hand_Output_eq];exact output_loop e pt hx hR NN 0 (s:=[]) (NN_big _ (by omega)) (by omega) (by simp) (Keep.refl _)
structure Lines(H:Heap)(L:List (List Cl))(y:Sl)(p:Q):Prop where
 o:Outer H y p
 r:Rows H p
 m:p.map Prod.snd=L
theorem Lines.keep{S:Nat→Prop}{H H':Heap}{L:List (List Cl)}{y:Sl}{p:Q}(h:Lines H L y p)(k:Keep S H H')(h2:∀k,y.at k→¬S k)(h3:∀k,bl p k→¬S k):Lines H' L y p:=⟨Whole.keep h.o k h2,h.r.keep k h3,h.m⟩
theorem Lines.new{H H':Heap}{L:List (List Cl)}{y:Sl}{p:Q}(h:Lines H L y p)(k:Keep0 H H'):Lines H' L y p:=h.keep k (fun _ _ e=>e) fun _ _ e=>e
theorem Lines.n{H:Heap}{L:List (List Cl)}{y:Sl}{p:Q}(h:Lines H L y p):y.n=L.length:=by rw[h.o.n,←h.m,List.length_map]
theorem Lines.row{H:Heap}{L:List (List Cl)}{y:Sl}{p:Q}(h:Lines H L y p){a:Nat}{l:List Cl}(ha:L[a]?=some l):∃ad x,y.a=some ad∧Heap.ld1 H (ap ad (((a:Int).toNat)*1))=some (wsl x l.length).v∧Row H x l:=by
 have h0:=congrArg (fun l=>l[a]?) h.m;simp only[List.getElem?_map]at h0;rw[ha]at h0;obtain⟨x,hx,hx2⟩:∃x,p[a]?=some x∧x.2=l:=by
  cases hpa:p[a]? with
  |none=>rw[hpa]at h0;cases h0
  |some x=>rw[hpa]at h0;exact⟨x,rfl,by simpa using h0⟩
 obtain⟨bb,v,_⟩:=Outer.ov h.o (h.o.some (by intro e;rw[e]at hx;cases hx));obtain⟨ad,ea,eb⟩:=v.ld hx;refine⟨ad,x.1,ea,?_,?_⟩
 ·rw[←hx2];exact eb
 ·rw[←hx2];exact h.r.1 x (List.mem_of_getElem? hx)
structure Lw(H0 H:Heap)(o:Ow)(M:Md):Prop where
 ok:MxOk H o M
 k0:Keep0 H0 H
 z0:∀j,j<H0.next→o j=.z
theorem Lw.new{H0 H H':Heap}{o:Ow}{M:Md}(h:Lw H0 H o M)(k:Keep0 H H'):Lw H0 H' o M:=⟨h.ok.new k,h.k0.trans k,h.z0⟩
theorem Lw.step{H0 H H':Heap}{o o':Ow}{M M':Md}(h:Lw H0 H o M)(ok:MxOk H' o' M')(s:St H o H' o'):Lw H0 H' o' M':=⟨ok,⟨Nat.le_trans h.k0.1 s.kp.1,fun k hk _=>(s.kp.2 k (Nat.lt_of_lt_of_le hk h.k0.1) fun e=>e (h.z0 k hk)).trans (h.k0.2 k hk id)⟩,fun j hj=>(s.ex j (Nat.lt_of_lt_of_le hj h.k0.1)).trans (h.z0 j hj)⟩
theorem St.own{H H':Heap}{o o':Ow}(s:St H o H' o'){b:Nat}{c:CObj}(hb:b<H.next)(hz:o b=.z)(hg:H.get b=some c):H'.get b=some c∧b<H'.next∧o' b=.z:=
 ⟨(s.kp.2 b hb fun e=>e hz).trans hg,Nat.lt_of_lt_of_le hb s.kp.1,(s.ex b hb).trans hz⟩
theorem known_x(d:Nat)(H:Heap):X (d+1) n_6 [] H=some (.bool true,H):=by kernel_rfl
structure One(M:Md)(R C:Nat)(s wl b:Nat)(w:Wn):Prop where
 R:M.rows=R
 C:M.cols=C
 ss:M.ss=[⟨[97],s,wl,1,[b],0⟩]
 W:M.W b=some w
theorem One.cur{M:Md}{R C s wl b:Nat}{w:Wn}(h:One M R C s wl b w)(hm:Wm M):cur M [97] ⟨[97],s,wl,1,[b],0⟩ b w:=by
 have hf:findS M.ss [97]=some ⟨[97],s,wl,1,[b],0⟩:=by rw[h.ss];rfl
 refine⟨hf,rfl,h.W,?_⟩;obtain⟨_,_,_,a4⟩:=hm.wb _ (findS_mem hf).1;obtain⟨v,v1,v2⟩:=a4 b (by simp);rw[h.W]at v1;cases v1;exact v2
theorem right_a:rightB [97]=true:=by decide
theorem start_a(d:Nat){H0:Heap}(t:Tab H0){R C:Nat}(hR:1≤R∧R≤60)(hC:1≤C∧C≤90):∃m H1 H2 o M s wl b w,X (d+43) n_5 [.int .i64 (R:Int),.int .i64 (C:Int)] H0=some (.tuple ⟨[P0 m,.int .i64 0]⟩,H1)∧X (d+43) n_7 [P0 m,.string (S [97])] H1=some (.int .i64 0,H2)∧M.m=m∧Lw H0 H2 o M∧One M R C s wl b w∧M.next=1∧w.zm=false:=by
 obtain⟨m,sm,pm,H1,o1,e1,h1,k1,z1⟩:=New_x (d+35) t hR hC;have hf:findS ([]:List Sn) [97]=none:=rfl;obtain⟨s,wl,b,tb,nd,x,H2,o2,e2,h2,x1,x2,s2,hb⟩:=NewSession_x d h1 (by show 0<100;omega) (nm:=[97]) (by simp) (by unfold newE;rw[right_a];rfl);exact⟨m,H1,H2,o2,_,s,wl,b,_,e1,e2,rfl,Lw.step ⟨h1,k1,z1⟩ h2 s2,⟨rfl,rfl,rfl,updN_same _ _ _⟩,rfl,rfl⟩
def Bools(H:Heap)(x:Sl)(l:List Bool):Prop:=x.n≤l.length∧∀(i:Nat) n,i<x.n→l[i]?=some n→∃b o,x.a=some ⟨b,o,none⟩∧b<H.next∧H.ld1 ⟨b,o+i,none⟩=some (.bool n)
theorem Bools.new{H H':Heap}{x:Sl}{l:List Bool}(h:Bools H x l)(k:Keep0 H H'):Bools H' x l:=⟨h.1,fun i n hi hn=>by obtain⟨b,o,h1,h2,h3⟩:=h.2 i n hi hn;refine⟨b,o,h1,Nat.lt_of_lt_of_le h2 k.1,?_⟩;have e:=k.2 b h2 id;unfold Heap.ld1 at h3⊢;simp only[e];exact h3⟩
theorem Bools.ld{H:Heap}{x:Sl}{l:List Bool}(h:Bools H x l){i:Nat}(hi:i<x.n):∃a c,x.a=some a∧Heap.ld1 H (ap a (((i:Int).toNat)*1))=some (.bool c):=by have hl:=h.1;obtain⟨b,o,h1,_,h3⟩:=h.2 i l[i] hi (List.getElem?_eq_getElem (by omega));exact⟨_,l[i],h1,by rw[show ap ⟨b,o,none⟩ (((i:Int).toNat)*1)=⟨b,o+i,none⟩by simp[ap]];exact h3⟩
theorem One.split(d:Nat){H0 H:Heap}{o:Ow}{M:Md}{R C s wl b:Nat}{w:Wn}(h:Lw H0 H o M)(one:One M R C s wl b w)(hn:M.next<100)(hz:w.zm=false)(ac:Bool):∃e H' o' M' w',X (d+42) n_9 [P0 M.m,.string (S [97]),.bool ac] H=some (.int .i64 e,H')∧Lw H0 H' o' M'∧One M' R C s wl b w'∧M'.m=M.m∧M'.next≤M.next+1∧w'.zm=false:=by
 rcases Split_x h.ok d hn (one.cur h.ok.wm) ac with ⟨hs,H',e',k'⟩|⟨hs,n1,n2,x,H',o',P',e',h',s',_,_,_,_⟩
 ·exact⟨_,H',o,M,w,e',h.new k',one,rfl,by omega,hz⟩
 ·exact⟨_,H',o',_,_,e',h.step h' s',⟨one.R,one.C,one.ss,updN_same _ _ _⟩,rfl,Nat.le_refl _,rfl⟩
theorem paintP_wid(R C:Nat)(r:Rc)(SR SC:Nat)(SL V:List (List Cl))(hV:V.length=R∧∀l∈V,l.length=C)(hSL:∀l∈SL,l.length=SC)(hS:SL.length=SR)(hr:r.ok):(paintP R C r SR SC SL V).length=R∧∀l∈paintP R C r SR SC SL V,l.length=C:=by
 unfold paintP;generalize hn:(min r.rows (SR:Int)).toNat=n;have hle:n≤SL.length:=by rw[hS];omega
 clear hn;induction n with
 |zero=>exact hV
 |succ n ih=>
  rw[List.range_succ,List.foldl_append,List.foldl_cons,List.foldl_nil];obtain⟨i1,i2⟩:=ih (by omega);generalize (List.range n).foldl (paintRow R C r SC SL) V=V' at i1 i2;unfold paintRow;split
  ·rename_i hc;refine⟨by rw[List.length_modify];exact i1,fun l hl=>?_⟩;obtain⟨j,hj,e⟩:=List.getElem_of_mem hl;rw[List.getElem_modify]at e;rw[List.length_modify]at hj;have hlj:=i2 _ (List.getElem_mem hj);split at e
   ·rw[←e,putAt_len]
    ·exact hlj
    ·rw[hlj,List.length_take];obtain⟨o1,o2,o3,o4,_,_⟩:=hr;unfold paintN;omega
   ·rw[←e];exact hlj
  ·exact⟨i1,i2⟩
theorem lineP_wid{R C:Nat}(V:List (List Cl))(x:Rc×Bool)(hV:V.length=R∧∀l∈V,l.length=C):(lineP V x).length=R∧∀l∈lineP V x,l.length=C:=by
 have cell:∀(i j:Nat) (V:List (List Cl)),(V.length=R∧∀l∈V,l.length=C)→((lineCell x.1 x.2 i V j).length=R∧∀l∈lineCell x.1 x.2 i V j,l.length=C):=fun i j V h=>by
  unfold lineCell;refine⟨by rw[List.length_modify];exact h.1,fun l hl=>?_⟩;obtain⟨k,hk,e⟩:=List.getElem_of_mem hl;rw[List.getElem_modify]at e;rw[List.length_modify]at hk;have hlk:=h.2 _ (List.getElem_mem hk);split at e
  ·rw[←e,List.length_set];exact hlk
  ·rw[←e];exact hlk
 have fold:∀{α:Type} (f:List (List Cl)→α→List (List Cl)),(∀V a,(V.length=R∧∀l∈V,l.length=C)→((f V a).length=R∧∀l∈f V a,l.length=C))→∀(l:List α) (V:List (List Cl)),(V.length=R∧∀l∈V,l.length=C)→((l.foldl f V).length=R∧∀m∈l.foldl f V,m.length=C):=fun f hf l=>by
  induction l with
  |nil=>exact fun V h=>h
  |cons a l ih=>exact fun V h=>ih _ (hf V a h)
 unfold lineP;exact fold _ (fun V i h=>fold _ (fun V j h=>cell i j V h) _ _ h) _ _ hV
theorem viewU_wid{H:Heap}{o:Ow}{M:Md}(h:MxOk H o M){b:Nat}{w:Wn}(hw:M.W b=some w):(viewU M w).L.length=M.rows∧∀l∈(viewU M w).L,l.length=M.cols:=by
 have hwin:(winRc M.rows M.cols).ok:=winRc_ok ⟨by have:=h.wm.r;omega,by have:=h.wm.c;omega⟩;have step:∀(l:List (Int×Rc)) (v:VP),(∀e∈l,e.2.ok)→v.rows=M.rows→v.cols=M.cols→(v.L.length=M.rows∧∀l∈v.L,l.length=M.cols)→((l.foldl (viewStep M w.act) v).L.length=M.rows∧∀m∈(l.foldl (viewStep M w.act) v).L,m.length=M.cols):=fun l=>by
  induction l with
  |nil=>exact fun v _ _ _ h=>h
  |cons e l ih=>
   intro v ho hr hc hv;have hs:=viewStep_size M w.act v e;refine ih _ (fun e he=>ho e (List.mem_cons_of_mem _ he)) (hs.1.trans hr) (hs.2.trans hc) ?_;unfold viewStep;cases hx:M.P e.1 with
   |none=>exact hv
   |some x=>have wf:=(h.hP _ x hx).gr.wf;have:=paintP_wid M.rows M.cols e.2 x.q.g.c.rows x.q.g.c.cols x.q.g.L v.L hv wf.Lw wf.Ln (ho e List.mem_cons_self);simp only[hr,hc];split<;>exact this
 have hz:∀e∈w.t.panes.zip (w.t.places (winRc M.rows M.cols)),e.2.ok:=fun e he=>(w.t.places_ok hwin e.2 (List.of_mem_zip he).2).1;have h1:=step _ (blankV M.rows M.cols) hz rfl rfl ⟨by simp[blankV],fun l hl=>by simp only[blankV]at hl;rw[(List.mem_replicate.1 hl).2,List.length_replicate]⟩;unfold viewU;simp only;generalize (w.t.panes.zip (w.t.places (winRc M.rows M.cols))).foldl (viewStep M w.act) (blankV M.rows M.cols)=v at h1;have fold:∀(l:List (Rc×Bool)) (V:List (List Cl)),(V.length=M.rows∧∀l∈V,l.length=M.cols)→((l.foldl lineP V).length=M.rows∧∀m∈l.foldl lineP V,m.length=M.cols):=fun l=>by
  induction l with
  |nil=>exact fun V h=>h
  |cons a l ih=>exact fun V h=>ih _ (lineP_wid V a h)
 exact fold _ _ h1
theorem cast_view(a:Array Value)(b:Bool)(K:List Value→Res):castT [.agg,.bool] (.tuple #[.agg a,.bool b]) K=K [.agg a,.bool b]:=by simp only[castT_s,castL_c,castL_n,cast0,asA_s,asI_s,asB_s]
theorem VP.l_len(v:VP)(y:Sl):(v.l y).length=6:=rfl
theorem VP.l_one(v:VP)(y:Sl):(v.l y).all one=true:=rfl
theorem put_screen{H:Heap}{l:List Value}(hl:l.length=6)(h1:l.all one=true)(K:Nat→Heap→Res):(newK H (.cells [.int .i64 0,.int .i64 0,.slice none 0 0,.int .i64 0,.int .i64 0,.bool false] t_38 false 0 false) fun p H2=>effK (.store 6) [P0 p,.agg ⟨l⟩] H2 fun _ H3=>K p H3)=K H.next ((H.new (.cells [.int .i64 0,.int .i64 0,.slice none 0 0,.int .i64 0,.int .i64 0,.bool false] t_38 false 0 false)).put H.next (.cells l t_38 false 0 false)):=by
 simp only[newK_s];rw[show∀K,effK (.store 6) [P0 H.next,.agg ⟨l⟩] (H.new (.cells [.int .i64 0,.int .i64 0,.slice none 0 0,.int .i64 0,.int .i64 0,.bool false] t_38 false 0 false)) K=_ from fun K=>st6 (K:=K) (Heap.get_new_same _ _) rfl hl h1]
theorem put_screen_k(H:Heap)(l:List Value):Keep0 H ((H.new (.cells [.int .i64 0,.int .i64 0,.slice none 0 0,.int .i64 0,.int .i64 0,.bool false] t_38 false 0 false)).put H.next (.cells l t_38 false 0 false))∧((H.new (.cells [.int .i64 0,.int .i64 0,.slice none 0 0,.int .i64 0,.int .i64 0,.bool false] t_38 false 0 false)).put H.next (.cells l t_38 false 0 false)).get H.next=some (.cells l t_38 false 0 false):=
 ⟨(Keep.new _ _:Keep0 H _).fresh (Keep.put (S:=fun k=>k=H.next) _ _ _ rfl) fun k e=>by have e':k=H.next:=e;omega,by simp⟩
theorem viewP_unz(M:Md){w:Wn}(hz:w.zm=false):viewP M w=viewU M w:=by unfold viewP;rw[if_neg (by simp[hz])]
theorem viewU_cur{H:Heap}{o:Ow}{M:Md}(h:MxOk H o M){b:Nat}{w:Wn}(hw:M.W b=some w):(0≤(viewU M w).r∧(viewU M w).r<(M.rows:Int))∧0≤(viewU M w).c∧(viewU M w).c<(M.cols:Int):=by
 have r1:=h.wm.r;have c1:=h.wm.c;have hwin:(winRc M.rows M.cols).ok:=winRc_ok ⟨by omega,by omega⟩;have step:∀(l:List (Int×Rc)) (v:VP),(∀e∈l,e.2.ok)→((0≤v.r∧v.r<(M.rows:Int))∧0≤v.c∧v.c<(M.cols:Int))→
   ((0≤(l.foldl (viewStep M w.act) v).r∧(l.foldl (viewStep M w.act) v).r<(M.rows:Int))∧0≤(l.foldl (viewStep M w.act) v).c∧(l.foldl (viewStep M w.act) v).c<(M.cols:Int)):=fun l=>by
  induction l with
  |nil=>exact fun v _ h=>h
  |cons e l ih=>
   intro v ho hv;refine ih _ (fun e he=>ho e (List.mem_cons_of_mem _ he)) ?_;obtain⟨o1,o2,_⟩:=ho e List.mem_cons_self;unfold viewStep;cases hx:M.P e.1 with
   |none=>exact hv
   |some x=>
    dsimp only;split
    ·dsimp only;refine⟨⟨?_,?_⟩,?_,?_⟩<;>omega
    ·exact hv
 have hz:∀e∈w.t.panes.zip (w.t.places (winRc M.rows M.cols)),e.2.ok:=fun e he=>(w.t.places_ok hwin e.2 (List.of_mem_zip he).2).1;exact step _ (blankV M.rows M.cols) hz (by show((0:Int)≤0∧(0:Int)<(M.rows:Int))∧(0:Int)≤0∧(0:Int)<(M.cols:Int);omega)
def Intss(H:Heap)(x:Sl)(L:List (Sl×List Int)):Prop:=x.n≤L.length∧∀(i:Nat) e,i<x.n→L[i]?=some e→∃b o,x.a=some ⟨b,o,none⟩∧b<H.next∧H.ld1 ⟨b,o+i,none⟩=some e.1.v∧Ints H e.1 e.2
theorem ld1_keep0{H H':Heap}(k:Keep0 H H'){b j:Nat}{v:Value}(hb:b<H.next)(h:H.ld1 ⟨b,j,none⟩=some v):H'.ld1 ⟨b,j,none⟩=some v:=by have e:=k.2 b hb id;unfold Heap.ld1 at h⊢;simp only[e];exact h
theorem Intss.ld{H H':Heap}{x:Sl}{L:List (Sl×List Int)}(h:Intss H x L)(k:Keep0 H H'){i:Nat}(hi:i<x.n):∃a s l,x.a=some a∧Heap.ld1 H' (ap a (((i:Int).toNat)*1))=some (Sl.v s)∧Ints H s l:=by have hl:=h.1;obtain⟨b,o,h1,h2,h3,h4⟩:=h.2 i L[i] hi (List.getElem?_eq_getElem (by omega));exact⟨_,_,_,h1,by rw[show ap ⟨b,o,none⟩ (((i:Int).toNat)*1)=⟨b,o+i,none⟩by simp[ap]];exact ld1_keep0 k h2 h3,h4⟩
theorem Ints.ldk{H H':Heap}{x:Sl}{l:List Int}(h:Ints H x l)(k:Keep0 H H'){i:Nat}(hi:i<x.n):∃a n,x.a=some a∧Heap.ld1 H' (ap a (((i:Int).toNat)*1))=some (.int .i64 n):=by have hl:=h.1;obtain⟨b,o,h1,h2,h3⟩:=h.2 i l[i] hi (List.getElem?_eq_getElem (by omega));exact⟨_,l[i],h1,by rw[show ap ⟨b,o,none⟩ (((i:Int).toNat)*1)=⟨b,o+i,none⟩by simp[ap]];exact ld1_keep0 k h2 h3⟩
theorem One.sel(d:Nat){H0 H:Heap}{o:Ow}{M:Md}{R C s wl b:Nat}{w:Wn}(h:Lw H0 H o M)(one:One M R C s wl b w)(hz:w.zm=false)(k:Int):∃e H' o' M' w',X (d+42) n_8 [P0 M.m,.string (S [97]),.int .i64 k] H=some (.int .i64 e,H')∧Lw H0 H' o' M'∧One M' R C s wl b w'∧M'.m=M.m∧M'.next=M.next∧w'.zm=false:=by
 rcases SelectPane_x h.ok d (one.cur h.ok.wm) k with ⟨_,H',e',k'⟩|⟨p,H',o',P',_,e',h',s',_⟩
 ·exact⟨_,H',o,M,w,e',h.new k',one,rfl,rfl,hz⟩
 ·exact⟨_,H',o',_,_,e',h.step h' s',⟨one.R,one.C,one.ss,updN_same _ _ _⟩,rfl,rfl,by show(w.zm&&_)=false;rw[hz];rfl⟩
theorem one_out(d:Nat){H0 H:Heap}{o:Ow}{M:Md}{R C s wl b:Nat}{w:Wn}(h:Lw H0 H o M)(one:One M R C s wl b w)(k:Int){x:Sl}{l:W}(hx:HV H x l)(hl:l.length≤1900000):
  ∃e H' o' M',X (d+12) n_10 [P0 M.m,.int .i64 k,x.v] H=some (.int .i64 e,H')∧Lw H0 H' o' M'∧One M' R C s wl b w∧M'.m=M.m:=by
 cases hk:M.P k with
 |none=>exact⟨_,H,o,M,Output_n h.ok (d+11) hk x,h,one,rfl⟩
 |some y=>obtain⟨H',o',A',e',h',s'⟩:=Output_x h.ok d hk hx hl;exact⟨_,H',o',_,e',h.step h' s',⟨one.R,one.C,one.ss,one.W⟩,rfl⟩
theorem views_rows(d:Nat){H:Heap}{L:List (List Cl)}{y:Sl}{q:Q}{p R C:Nat}(ln:Lines H L y q)(hL:L.length=R)(hw:∀l∈L,l.length=C)(hR:R≤1000)(hld:Heap.ld1 H ⟨p,2,none⟩=some y.v):∀(m0 i:Nat),R-i<m0→i≤R→
  j28 d m0 (R:Int) (C:Int) p (i:Int) H=some (.bool true,H):=fun m0=>by
 induction m0 with
 |zero=>intro i hm;omega
 |succ m0 ih=>
  intro i hm hi;rw[j28_s];by_cases h1:i<R
  ·rw[if_pos (show decide ((i:Int)<(R:Int))=true from decide_eq_true (by omega)),hld];simp only[optK_s,asSL_k];have ha:L[i]?=some L[i]:=List.getElem?_eq_getElem (by omega);have hlen:=hw L[i] (List.getElem_mem (by omega));obtain⟨ad,x,ea,la,_⟩:=ln.row ha;have hn:=ln.n;rw[ea];simp only[optK_s];rw[if_pos (show(0:Int)≤(i:Int)∧(i:Int)<(y.n:Int)by omega),la];simp only[optK_s,asSL_k];rw[if_neg (show¬(!decide ((((wsl x L[i].length).n:Nat):Int)=(C:Int)))=true by rw[show(wsl x L[i].length).n=L[i].length from rfl,hlen];simp),wi (by omega)];exact ih (i+1) (by omega) (by omega)
  ·rw[if_neg (show¬decide ((i:Int)<(R:Int))=true by rw[decide_eq_true_eq];omega)]
theorem views_end(e:Nat){H0 H:Heap}{o:Ow}{M:Md}{R C s wl b:Nat}{w:Wn}(hw:Lw H0 H o M)(one:One M R C s wl b w)(hz:w.zm=false)(hR:R≤1000)(x3:Sl)(i m0:Nat):∃H',j16 (e+43) m0 (R:Int) (C:Int) x3 (some ⟨M.m,0,none⟩) (i:Int) false H=some (.bool true,H'):=by
 rw[j16_eq,if_neg (by simp)];obtain⟨H1,y,q,e1,v1,k1⟩:=View_c hw.ok (e+2) (one.cur hw.ok.wm);rw[show X (e+43) n_12 [.pointer (some ⟨M.m,0,none⟩),.string (S [97])] H=_ from e1];simp only[callK_s,cast_view,List.getElem?_cons_zero,List.getElem?_cons_succ,optK_s,asA_s,asB_s];rw[put_screen (VP.l_len _ _) (VP.l_one _ _)];have hRR:M.rows=R:=one.R;have hCC:M.cols=C:=one.C;have hU:=viewP_unz M hz;rw[hU]at v1;rw[hU];obtain⟨hl,hwid⟩:=viewU_wid hw.ok one.W;obtain⟨hr,hc⟩:(viewU M w).rows=M.rows∧(viewU M w).cols=M.cols:=views_size M w.act _ (blankV M.rows M.cols);obtain⟨⟨c1,c2⟩,c3,c4⟩:=viewU_cur hw.ok one.W;generalize viewU M w=V at*;rw[hRR]at hl hr c2;rw[hCC]at hwid hc c4;obtain⟨k2,g2⟩:=put_screen_k H1 (V.l y);generalize (H1.new (.cells [.int .i64 0,.int .i64 0,.slice none 0 0,.int .i64 0,.int .i64 0,.bool false] t_38 false 0 false)).put H1.next (.cells (V.l y) t_38 false 0 false)=H2 at*
 have ln:Lines H2 V.L y q:=(⟨v1.o,v1.r,v1.m⟩:Lines H1 V.L y q).new k2;rw[if_neg (by simp),(ld1_s g2).trans (show _=some (Value.int .i64 (V.rows:Int))from rfl)];simp only[optK_s,asI_s];rw[if_neg (show¬(!decide ((V.rows:Int)=(R:Int)))=true by rw[hr];simp),(ld1_s g2).trans (show _=some (Value.int .i64 (V.cols:Int))from rfl)];simp only[optK_s,asI_s];rw[if_neg (show¬(!decide ((V.cols:Int)=(C:Int)))=true by rw[hc];simp),(ld1_s g2).trans (show _=some (Value.int .i64 V.r)from rfl)];simp only[optK_s,asI_s];rw[if_neg (show¬decide (V.r<0)=true by rw[decide_eq_true_eq];omega),if_neg (show¬decide ((R:Int)≤V.r)=true by rw[decide_eq_true_eq];omega),(ld1_s g2).trans (show _=some (Value.int .i64 V.c)from rfl)];simp only[optK_s,asI_s];rw[if_neg (show¬decide (V.c<0)=true by rw[decide_eq_true_eq];omega),if_neg (show¬decide ((C:Int)≤V.c)=true by rw[decide_eq_true_eq];omega),(ld1_s g2).trans (show _=some y.v from rfl)];simp only[optK_s,asSL_k];have hn:=ln.n;rw[show(!decide ((y.n:Int)=(R:Int)))=false by rw[hn,hl];simp,j7_eq,if_neg (by simp)];exact⟨H2,views_rows (e+43) ln hl hwid hR ((ld1_s g2).trans rfl) NN 0 (by rw[NN_eq];omega) (by omega)⟩
theorem views_outs(e:Nat){H0:Heap}(pt:PTab H0){R C s wl b:Nat}{w:Wn}(hz:w.zm=false)(hR:R≤1000){x3:Sl}{L3:List (Sl×List Int)}(hx3:Intss H0 x3 L3):∀(m0 i:Nat) {H:Heap} {o:Ow} {M:Md},10-i<m0→i≤9→Lw H0 H o M→One M R C s wl b w→
  ∃H',j27 (e+43) m0 (R:Int) (C:Int) x3 (some ⟨M.m,0,none⟩) (i:Int) H=some (.bool true,H'):=fun m0=>by
 induction m0 with
 |zero=>intro i H o M hm;omega
 |succ m0 ih=>
  intro i H o M hm hi hw one;rw[j27_s];by_cases h1:(i:Int)<(x3.n:Int)
  ·rw[if_pos (decide_eq_true h1)];by_cases h5:i<9
   ·rw[show decide ((i:Int)<9)=true from decide_eq_true (by omega),j16_eq,if_pos rfl];obtain⟨a,sl,l,ea,la,hi2⟩:=hx3.ld hw.k0 (i:=i) (by omega);rw[ea];simp only[optK_s];rw[if_pos (show(0:Int)≤(i:Int)∧(i:Int)<(x3.n:Int)by omega),la];simp only[optK_s,asSL_k];obtain⟨wd,H4,e4,wl4,k4⟩:=Output_s (e+40) (pt.keep hw.k0 id id) (hi2.new hw.k0) (R:=5) (by omega);rw[show X (e+43) n_11 [sl.v,.int .i64 5] H=_ from e4];simp only[callK_s,asS_s,newK_s];rw[lstS,slenS,show(wd.map fun b=>Value.int .u8 (b.toNat:Int))=bc wd from rfl];have w4:=hw.new k4;have k5:Keep0 H4 (H4.new (.cells (bc wd) t_5 true 0 true)):=Keep.new _ _;have g5:(H4.new (.cells (bc wd) t_5 true 0 true)).get H4.next=some (.cells (bc wd) t_5 true 0 true):=by simp
    have n5:(H4.new (.cells (bc wd) t_5 true 0 true)).next=H4.next+1:=rfl
    generalize H4.new (.cells (bc wd) t_5 true 0 true)=H5 at*;have w5:=w4.new k5;have v5:BV H5 ⟨some ⟨H4.next,0,none⟩,wd.length,wd.length⟩ H4.next [] wd []:=⟨rfl,by rw[bytes_len];simp,Nat.le_refl _,by omega,true,true,by rw[List.nil_append,List.append_nil];exact g5⟩
    obtain⟨er,H6,o6,M6,e6,lw6,one6,hm6⟩:=one_out (e+31) w5 one (i:Int) (x:=⟨some ⟨H4.next,0,none⟩,wd.length,wd.length⟩) (l:=wd) (.inr ⟨_,_,_,v5⟩) (by omega);rw[show X (e+43) n_10 [.pointer (some ⟨M.m,0,none⟩),.int .i64 (i:Int),.slice (some ⟨H4.next,0,none⟩) wd.length wd.length] H5=_ from e6];simp only[callK_s,asI_s];rw[wi (by omega),←hm6];exact ih (i+1) (by omega) (by omega) lw6 one6
   ·rw[show decide ((i:Int)<9)=false from decide_eq_false (by omega)];exact views_end e hw one hz hR x3 i m0
  ·rw[if_neg (show¬decide ((i:Int)<(x3.n:Int))=true by simpa using h1)];exact views_end e hw one hz hR x3 i m0
theorem views_splits(e:Nat){H0:Heap}(pt:PTab H0){R C s wl b:Nat}(hR:R≤1000){x2 x3:Sl}{l2:List Int}{L3:List (Sl×List Int)}(hx2:Ints H0 x2 l2)(hx3:Intss H0 x3 L3):∀(m0 i:Nat) {H:Heap} {o:Ow} {M:Md} {w:Wn},9-i<m0→i≤8→M.next≤i+1→Lw H0 H o M→One M R C s wl b w→w.zm=false→
  ∃H',j26 (e+43) m0 (R:Int) (C:Int) x2 x3 (some ⟨M.m,0,none⟩) (i:Int) H=some (.bool true,H'):=fun m0=>by
 induction m0 with
 |zero=>intro i H o M w hm;omega
 |succ m0 ih=>
  intro i H o M w hm hi hn hw one hz;have go:∃H',j15 (e+43) m0 (R:Int) (C:Int) x2 x3 (some ⟨M.m,0,none⟩) (i:Int) false H=some (.bool true,H'):=by rw[j15_eq,if_neg (by simp)];exact views_outs e pt hz hR hx3 NN 0 (by rw[NN_eq];omega) (by omega) hw one
  rw[j26_s];by_cases h1:(i:Int)<(x2.n:Int)
  ·rw[if_pos (decide_eq_true h1)];by_cases h5:i<8
   ·rw[show decide ((i:Int)<8)=true from decide_eq_true (by omega),j15_eq,if_pos rfl];obtain⟨a,n,ea,la⟩:=hx2.ldk hw.k0 (i:=i) (by omega);rw[ea];simp only[optK_s];rw[if_pos (show(0:Int)≤(i:Int)∧(i:Int)<(x2.n:Int)by omega),la];simp only[optK_s,asI_s];obtain⟨r,e1,hr⟩:=Pick_s (e+42) (IntKind.wrap .i64 (Int.tdiv n 2)) 6 H (by omega) (by omega);rw[show X (e+43) n_4 [.int .i64 (IntKind.wrap .i64 (Int.tdiv n 2)),.int .i64 6] H=_ from e1];simp only[callK_s,asI_s];obtain⟨er,H1,o1,M1,w1,e2,lw1,one1,hm1,hn1,hz1⟩:=one.sel (e+1) hw hz (r:Int);rw[show X (e+43) n_8 [.pointer (some ⟨M.m,0,none⟩),.string (S [97]),.int .i64 (r:Int)] H=_ from e2];simp only[callK_s,asI_s,optK_s];obtain⟨a',n',ea',la'⟩:=hx2.ldk lw1.k0 (i:=i) (by omega);rw[ea]at ea';cases ea';rw[if_pos (show(0:Int)≤(i:Int)∧(i:Int)<(x2.n:Int)by omega),la'];simp only[optK_s,asI_s];obtain⟨er2,H2,o2,M2,w2,e3,lw2,one2,hm2,hn2,hz2⟩:=one1.split (e+1) lw1 (by omega) hz1 (decide (Int.tmod n' 2=0));rw[hm1]at e3;rw[show X (e+43) n_9 [.pointer (some ⟨M.m,0,none⟩),.string (S [97]),.bool (decide (Int.tmod n' 2=0))] H1=_ from e3];simp only[callK_s,asI_s];rw[wi (by omega),←hm1,←hm2];exact ih (i+1) (by omega) (by omega) (by omega) lw2 one2 hz2
   ·rw[show decide ((i:Int)<8)=false from decide_eq_false (by omega)];exact go
  ·rw[if_neg (show¬decide ((i:Int)<(x2.n:Int))=true by simpa using h1)];exact go
theorem MuxViews_s(e:Nat){H0:Heap}(t:Tab H0)(pt:PTab H0)(x0 x1:Int){x2 x3:Sl}{l2:List Int}{L3:List (Sl×List Int)}(hx2:Ints H0 x2 l2)(hx3:Intss H0 x3 L3):∃H',X (e+44) n_3 [.int .i64 x0,.int .i64 x1,x2.v,x3.v] H0=some (.bool true,H'):=by
 rw[law23_MuxViews_eq];obtain⟨r,e1,hr⟩:=Pick_s (e+42) x0 20 H0 (by omega) (by omega);rw[show X (e+43) n_4 [.int .i64 x0,.int .i64 20] H0=_ from e1];simp only[callK_s,asI_s];obtain⟨c,e2,hc⟩:=Pick_s (e+42) x1 40 H0 (by omega) (by omega);rw[show X (e+43) n_4 [.int .i64 x1,.int .i64 40] H0=_ from e2];simp only[callK_s,asI_s];rw[show IntKind.wrap .i64 (1+(r:Int))=((1+r:Nat):Int)by rw[w64 (by omega)];omega,show IntKind.wrap .i64 (1+(c:Int))=((1+c:Nat):Int)by rw[w64 (by omega)];omega];obtain⟨m,H1,H2,o,M,s,wl,b,w,e3,e4,hm,lw,one,hn,hz⟩:=start_a e t (R:=1+r) (C:=1+c) (by omega) (by omega);rw[e3];simp only[callK_s,castT_s,castL_c,castL_n,cast0,P0,asP_s,asI_s,optK_s,List.getElem?_cons_zero,List.getElem?_cons_succ];rw[known_x];simp only[callK_s,asB_s];rw[if_neg (by simp),if_neg (by simp),if_neg (show¬(some (⟨m,0,none⟩:Addr)).isNone=true by simp)];rw[show X (e+43) n_7 [.pointer (some ⟨m,0,none⟩),.string (S [97])] H1=_ from e4];simp only[callK_s,asI_s];rw[show(!decide True)=false from rfl,j14_eq,if_neg (by simp),←hm];exact views_splits e pt (by omega) hx2 hx3 NN 0 (by rw[NN_eq];omega) (by omega) (by omega) lw one hz
end Go.Proofs.YtjjchnjcmnkpdaaDoor.dec

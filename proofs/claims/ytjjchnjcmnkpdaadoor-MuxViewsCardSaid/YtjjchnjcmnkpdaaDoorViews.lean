/-
  mux: the example, by evaluation.
-/
import Derived.Test.YtjjchnjcmnkpdaaDoorCmH
import Derived.Test.YtjjchnjcmnkpdaaDoorChecked
import Derived.Test.YtjjchnjcmnkpdaaDoorRows
import Derived.Test.YtjjchnjcmnkpdaaDoorLineD
import Derived.Shelf.Vars
import Derived.ChangeMaps5
import Derived.ChangeSlices
import Derived.Test.YtjjchnjcmnkpdaaDoorCards
import Derived.Test.YtjjchnjcmnkpdaaDoorTie
namespace Go.Proofs.YtjjchnjcmnkpdaaDoor.frame
open Go Go.Cm Go.ChangeShapes Go.WideShapes Go.ChangeAt Go.RowKit
theorem own:ownKnob Tryd.prog.godebug=none:=by kernel_rfl
theorem mixed:Tryd.prog.follows .mixedOrders=true:=Tryd.checked.mixed
theorem known_ev:(match callD ⟨autoFn [] Tryd.prog,fun _=>none⟩ 1000 60 6 [] (heap0 0 fun _=>none)with
 |some (.bool b,_)=>b
 |_=>false)=true:=by kernel_rfl
theorem known:∃H1,callD ⟨autoFn [] Tryd.prog,fun _=>none⟩ 1000 60 6 [] (heap0 0 fun _=>none)=some (.bool true,H1):=by
 have h:=known_ev;split at h
 ·rename_i b H1 e;subst h;exact⟨H1,e⟩
 ·cases h
end Go.Proofs.YtjjchnjcmnkpdaaDoor.frame
namespace Go.Cm
open Go
theorem DR.array_inv{H:Type}{P:Program}{ws:List Win}{t e:TypeId}{n:Nat}{cs:List Value}{d:DataW H}(h:DR P ws t cs d)(ht:P.underlying t=some (.array n e)):∃ds:List (DataW H),d=.agg ds∧ds.length=n∧∀(i:Nat) d,ds[i]?=some d→DR P ws e ((cs.drop (i*P.cellsOf e)).take (P.cellsOf e)) d:=by
 cases h;case array e' n' ds hn hu hd hl=>rw[ht]at hu;cases hu;exact⟨_,rfl,hn,hd⟩
 all_goals simp_all
end Go.Cm
namespace Go.Proofs.YtjjchnjcmnkpdaaDoor.frame
open Go Go.Cm Go.ChangeShapes Go.WideShapes Go.ChangeAt Go.RowKit
set_option maxRecDepth 100000 in
theorem prog_ok(n0:Nat)(w:World):ProgOK Tryd.prog (startG 4 n0 w) [0,1,2,3] dec.C:=by
 have hgl:∀g∈[0,1,2,3],g<(startG 4 n0 w).ng:=fun g h=>by show g<4;simp only[List.mem_cons,List.not_mem_nil,or_false]at h;omega
 refine⟨hgl,fun _ _ h=>autoC_ok h,fun f p h=>?_,fun _ hc _=>draw_ok mixed hgl hc⟩;unfold dec.C at h;simp only at h;split at h
 ·rename_i e;subst e;simp only[Option.some.injEq]at h;subst h;obtain⟨H1,hev⟩:=known;have hk:=sure_ok (w0:=startG 4 n0 w) mixed hev;intro g vs vs' H v H' μ w' hc;by_cases e:g=6
  ·subst e;refine hk 6 vs vs' H v H' μ w' ?_;simpa using hc
  ·exact absurd hc (by simp[e])
 ·cases h
def GSP:List GW:=[some ("porthole/portholehand.parts",74,Rows.laid_porthole_portholehand_parts),some ("porthole/portholehand.more",75,Rows.laid_porthole_portholehand_more),some ("unicode/utf8.first",158,Rows.laid_unicode_utf8_first),some ("unicode/utf8.acceptRanges",161,Rows.laid_unicode_utf8_acceptRanges)]
theorem rowsGSP:(List.range GSP.length).all (fun g=>(((begin Tryd.prog (fun _ _=>0) default).world.heap[g]?).bind Obj.row?).isSome)=true:=by kernel_rfl
def litU8{H:Type}:DataW H→Option Int
 | .lit (.int .u8 n)=>some n
 |_=>none
def agg2{H:Type}:DataW H→List (DataW H)
 | .agg l=>l
 |_=>[]
theorem DR.u8_at{H:Type}{ws:List Win}{cs:List Value}{d:DataW H}{n:Int}(h:DR Tryd.prog ws 5 (cs.take 1) d)(hd:litU8 d=some n):cs[0]?=some (.int .u8 n):=by
 obtain⟨m,e1,e2,_⟩:=h.int_inv Tryd.underlying5;subst e2;simp only[litU8,Option.some.injEq]at hd;subst hd;have:(cs.take 1)[0]?=some (.int .u8 m):=by rw[e1];rfl
 simpa using this
theorem first_at:(List.range 256).all (fun i=>decide (((agg2 (Rows.laid_unicode_utf8_first:DataW Unit))[i]?).bind litU8=some ((dec.firstT.getD i 0:Nat):Int)))=true:=by kernel_rfl
theorem acc_at:(List.range 16).all (fun i=>decide (((((agg2 (Rows.laid_unicode_utf8_acceptRanges:DataW Unit))[i]?).map agg2).map fun l=>l.map litU8)=some [some (((dec.acceptT.getD i (0,0)).1:Nat):Int),some (((dec.acceptT.getD i (0,0)).2:Nat):Int)]))=true:=by kernel_rfl
set_option maxRecDepth 100000 in
theorem tab_of{ws:List Win}(h:∀(g:Nat) n t d,GSP[g]?=some (some (n,t,d))→∃y,ws[g]?=some y∧DR Tryd.prog ws t y.cells d):dec.Tab (heapW ws):=by
 obtain⟨y2,a2,b2⟩:=h 2 _ _ _ rfl;obtain⟨y3,a3,b3⟩:=h 3 _ _ _ rfl;have hl:3<ws.length:=(List.getElem?_eq_some_iff.1 a3).1;have hc5:Tryd.prog.cellsOf 5=1:=by kernel_rfl
 have hc160:Tryd.prog.cellsOf 160=2:=by kernel_rfl
 refine⟨⟨_,_,_,_,_,heapW_get a2,fun i hi=>?_⟩,⟨_,_,_,_,_,heapW_get a3,fun i hi=>?_⟩,hl⟩
 ·obtain⟨ds,e,hn,hd⟩:=b2.array_inv Tryd.underlying158;have hat:=of_decide_eq_true (List.all_eq_true.1 first_at i (List.mem_range.2 hi));rw[e]at hat;obtain⟨d,hdi,hu⟩:=Option.bind_eq_some_iff.1 hat;have hdi:ds[i]?=some d:=hdi;have hdr:=hd i d hdi;rw[hc5,Nat.mul_one]at hdr;have:=DR.u8_at hdr hu;simpa using this
 ·obtain⟨ds,e,hn,hd⟩:=b3.array_inv Tryd.underlying161;have hat:=of_decide_eq_true (List.all_eq_true.1 acc_at i (List.mem_range.2 hi));rw[e]at hat;obtain⟨l,hl1,hl2⟩:=Option.map_eq_some_iff.1 hat;obtain⟨d,hdi,hda⟩:=Option.map_eq_some_iff.1 hl1;have hdi:ds[i]?=some d:=hdi;have hdr:=hd i d hdi;rw[hc160]at hdr;obtain⟨g1,es,e2,g2,g3⟩:=hdr.struct_inv Tryd.underlying160;subst e2;have hda:es=l:=hda;subst hda;rw[hc160]at g1
  match es,g2 with
  |[d0,d1],_=>
   have q0:=g3 0 _ _ rfl rfl;have q1:=g3 1 _ _ rfl rfl;simp only[hc5]at q0 q1;simp only[List.map_cons,List.map_nil,List.cons.injEq,and_true]at hl2;have r0:=DR.u8_at q0 hl2.1;have r1:=DR.u8_at q1 hl2.2;rw[List.length_take,List.length_drop]at g1;refine⟨by omega,?_⟩;generalize hcs:(y3.cells.drop (i*2)).take 2=cs at r0 r1;have hlen:cs.length=2:=by rw[←hcs,List.length_take,List.length_drop];omega
   match cs,hlen with
   |[v0,v1],_=>
    have r0':v0=.int .u8 (((dec.acceptT.getD i (0,0)).1:Nat):Int):=by simpa using r0
    have r1':v1=.int .u8 (((dec.acceptT.getD i (0,0)).2:Nat):Int):=by simpa using r1
    rw[r0',r1'];rfl
theorem ints_of{H:Type}{ws:List Win}{cs:List Value}{d:DataW H}(h:DR Tryd.prog ws 22 cs d):∃(x:Sl) (l:List Int),cs=[x.v]∧dec.Ints (heapW ws) x l:=by
 obtain⟨x,es,rest,rfl,h1,_,h3,h4⟩:=h.slice_inv Tryd.underlying22;have hc:Tryd.prog.cellsOf 3=1:=by kernel_rfl
 rw[hc]at h4;have each:∀i,i<es.length→∃(n:Int) (b:Nat),x.a=some ⟨b,0,none⟩∧b<(heapW ws).next∧(heapW ws).ld1 ⟨b,i,none⟩=some (.int .i64 n):=by
  intro i hi;obtain⟨b,y,q1,q2,q3,q4⟩:=h4 i _ (List.getElem?_eq_getElem hi);obtain⟨n,g1,_⟩:=q4.int_inv Tryd.underlying3;refine⟨n,b,q1,(List.getElem?_eq_some_iff.1 q2).1,?_⟩;rw[ld1_s (heapW_get q2)];rw[Nat.mul_one]at g1;have:((y.cells.drop i).take 1)[0]?=some (.int .i64 n):=by rw[g1];rfl
  simpa using this
 refine⟨x,(List.range es.length).map fun i=>if hi:i<es.length then(each i hi).choose else 0,rfl,⟨by simp;omega,fun i n hi hn=>?_⟩⟩;have hlt:=(List.getElem?_eq_some_iff.1 hn).1;simp only[List.length_map,List.length_range]at hlt;rw[List.getElem?_map,List.getElem?_range hlt]at hn;simp only[Option.map_some,Option.some.injEq,dif_pos hlt]at hn;subst hn;obtain⟨b,q1,q2,q3⟩:=(each i hlt).choose_spec;exact⟨b,0,q1,q2,by rw[Nat.zero_add];exact q3⟩
theorem intss_of{H:Type}{ws:List Win}{cs:List Value}{d:DataW H}(h:DR Tryd.prog ws 23 cs d):∃(x:Sl) (L:List (Sl×List Int)),cs=[x.v]∧dec.Intss (heapW ws) x L:=by
 obtain⟨x,es,rest,rfl,h1,_,h3,h4⟩:=h.slice_inv Tryd.underlying23;have hc:Tryd.prog.cellsOf 22=1:=by kernel_rfl
 rw[hc]at h4;have each:∀i,i<es.length→∃(e:Sl×List Int) (b:Nat),x.a=some ⟨b,0,none⟩∧b<(heapW ws).next∧(heapW ws).ld1 ⟨b,i,none⟩=some e.1.v∧dec.Ints (heapW ws) e.1 e.2:=by
  intro i hi;obtain⟨b,y,q1,q2,q3,q4⟩:=h4 i _ (List.getElem?_eq_getElem hi);obtain⟨z,l,g1,g2⟩:=ints_of q4;refine⟨(z,l),b,q1,(List.getElem?_eq_some_iff.1 q2).1,?_,g2⟩;rw[ld1_s (heapW_get q2)];rw[Nat.mul_one]at g1;have:((y.cells.drop i).take 1)[0]?=some z.v:=by rw[g1];rfl
  simpa using this
 refine⟨x,(List.range es.length).map fun i=>if hi:i<es.length then(each i hi).choose else(Sl.nil,[]),rfl,⟨by simp;omega,fun i n hi hn=>?_⟩⟩;have hlt:=(List.getElem?_eq_some_iff.1 hn).1;simp only[List.length_map,List.length_range]at hlt;rw[List.getElem?_map,List.getElem?_range hlt]at hn;simp only[Option.map_some,Option.some.injEq,dif_pos hlt]at hn;subst hn;obtain⟨b,q1,q2,q3,q4⟩:=(each i hlt).choose_spec;exact⟨b,0,q1,q2,by rw[Nat.zero_add];exact q3,q4⟩
def litLen{H:Type}:DataW H→Option Nat
 | .lit (.string l)=>some l.length
 |_=>none
theorem parts_at:(List.range 34).all (fun i=>decide ((((agg2 (Rows.laid_porthole_portholehand_parts:DataW Unit))[i]?).bind litLen).getD 1000≤100))=true:=by kernel_rfl
theorem more_at:(List.range 22).all (fun i=>decide ((((agg2 (Rows.laid_porthole_portholehand_more:DataW Unit))[i]?).bind litLen).getD 1000≤100))=true:=by kernel_rfl
theorem texts_of{ws:List Win}{t:TypeId}{n k:Nat}{cs:List Value}{d:DataW Unit}(b:DR Tryd.prog ws t cs d)(ht:Tryd.prog.underlying t=some (.array n k))(hk:Tryd.prog.underlying k=some .string)(hc:Tryd.prog.cellsOf k=1)(hat:(List.range n).all (fun i=>decide ((((agg2 d)[i]?).bind litLen).getD 1000≤100))=true):∀i,i<n→∃w:dec.W,w.length≤100∧cs[i]?=some (.string (S w)):=fun i hi=>by
 obtain⟨ds,e,hn,hd⟩:=b.array_inv ht;have h1:=of_decide_eq_true (List.all_eq_true.1 hat i (List.mem_range.2 hi));subst e;have hdi:ds[i]?=some (ds[i]'(by omega)):=List.getElem?_eq_getElem _;have hdr:=hd i _ hdi;have h2:(((agg2 (.agg ds:DataW Unit))[i]?).bind litLen)=litLen (ds[i]'(by omega)):=by show((ds[i]?).bind litLen)=_;rw[hdi];rfl
 rw[h2]at h1;generalize (ds[i]'(by omega))=d at h1 hdr;rw[hc,Nat.mul_one]at hdr;obtain⟨s,e1,e2⟩:=hdr.string_inv hk;subst e2;refine⟨lst s,h1,?_⟩;have:((cs.drop i).take 1)[0]?=some (.string s):=by rw[e1];rfl
 rw[S_lst];simpa using this
theorem ptab_of{ws:List Win}(h:∀(g:Nat) n t d,GSP[g]?=some (some (n,t,d))→∃y,ws[g]?=some y∧DR Tryd.prog ws t y.cells d):dec.PTab (heapW ws):=by obtain⟨y0,a0,b0⟩:=h 0 _ _ _ rfl;obtain⟨y1,a1,b1⟩:=h 1 _ _ _ rfl;have hl:1<ws.length:=(List.getElem?_eq_some_iff.1 a1).1;exact⟨⟨_,_,_,_,_,heapW_get a0,texts_of b0 Tryd.underlying74 (by kernel_rfl) (by kernel_rfl) parts_at⟩,⟨_,_,_,_,_,heapW_get a1,texts_of b1 Tryd.underlying75 (by kernel_rfl) (by kernel_rfl) more_at⟩,hl⟩
end Go.Proofs.YtjjchnjcmnkpdaaDoor.frame
namespace Go.Proofs.YtjjchnjcmnkpdaaDoor.mviews
open Go Go.Cm Go.ChangeShapes Go.WideShapes Go.ChangeAt Go.RowKit Go.Proofs.YtjjchnjcmnkpdaaDoor.frame
theorem rows_ok:(List.range GSP.length).all (fun g=>(((begin Tryd.prog (fun _ _=>0) default).world.heap[g]?).bind Obj.row?).isSome)=true:=rowsGSP
set_option maxRecDepth 100000 in
theorem contract(H:Type)(enc:TypeId×Value→H)(W:World)(base:Nat)(args:Array Value)(ds gs:List (DataW H))(before:List MemPlace)(hval:∀(j:Nat) t v,Tryd.f3.params[j]?=some t→args[j]?=some v→Value.okWide Tryd.prog W .any base t v)(hW:DataW.Whole enc Tryd.prog Tryd.f3.params.toList Rows.muxViewsSpec.vars false W args.toList ds gs before)(hL:laidMetH Tryd.prog Rows.muxViewsRow.laid W)(hsh:W.ShapedOpen Tryd.prog):Calls Tryd.prog 3 args W fun e W'=>∃v,e=.returned v∧Rows.muxViewsSpec.post enc Tryd.prog Tryd.f3 false true false false W args v W':=by
 have hW':=hW;obtain⟨p,q,hA0,hV,_⟩:=hW';obtain⟨rfl,_⟩:=trodVars_none hV;have hA:DataW.TrodAll enc Tryd.prog W 0 (fun _=>true) true Tryd.f3.params.toList args.toList ds p:=hA0;rw[Tryd.params3]at hA;obtain⟨v0,vs0,d0,ds0,p0,q0,_,rfl,_,_,r0⟩:=trodAll_cons hA;obtain⟨v1,vs1,d1,ds1,p1,q1,_,rfl,_,_,r1⟩:=trodAll_cons r0;obtain⟨v2,vs2,d2,ds2,p2,q2,_,rfl,_,_,r2⟩:=trodAll_cons r1;obtain⟨v3,vs3,d3,ds3,p3,q3,_,rfl,_,_,r3⟩:=trodAll_cons r2;obtain⟨_,rfl,_⟩:=trodAll_nil r3;refine law_contractG (C:=dec.C) (N:=dec.NN) (dep:=10) GSP (laid:=Rows.muxViewsRow.laid) (fun n0=>prog_ok n0 _) Tryd.func3 rfl (by kernel_rfl) (by kernel_rfl) hW rfl rfl ?_ ?_ rfl Tryd.underlying4 hval (by kernel_rfl) hL hsh (of_decide_eq_true (by kernel_rfl)) rows_ok ?_ ?_
 ·rw[Tryd.params3];intro t ht;simp only[List.mem_cons,List.not_mem_nil,or_false]at ht;rcases ht with rfl|rfl|rfl|rfl<;>kernel_rfl
 ·rw[Tryd.params3];intro t ht;simp only[List.mem_cons,List.not_mem_nil,or_false]at ht;rcases ht with rfl|rfl|rfl|rfl<;>exact⟨by kernel_rfl,of_decide_eq_true (by kernel_rfl)⟩
 ·
  intro g n t d h;rcases g with _|_|_|_|g
  ·simp only[GSP,List.getElem?_cons_zero,Option.some.injEq,Prod.mk.injEq]at h;obtain⟨rfl,rfl,rfl⟩:=h;exact⟨List.mem_cons_of_mem _ (List.mem_cons_self),by kernel_rfl,by kernel_rfl,by kernel_rfl⟩
  ·simp only[GSP,List.getElem?_cons_succ,List.getElem?_cons_zero,Option.some.injEq,Prod.mk.injEq]at h;obtain⟨rfl,rfl,rfl⟩:=h;exact⟨List.mem_cons_of_mem _ (List.mem_cons_of_mem _ (List.mem_cons_self)),by kernel_rfl,by kernel_rfl,by kernel_rfl⟩
  ·simp only[GSP,List.getElem?_cons_succ,List.getElem?_cons_zero,Option.some.injEq,Prod.mk.injEq]at h;obtain⟨rfl,rfl,rfl⟩:=h;exact⟨List.mem_cons_of_mem _ (List.mem_cons_of_mem _ (List.mem_cons_of_mem _ (List.mem_cons_self))),by kernel_rfl,by kernel_rfl,by kernel_rfl⟩
  ·simp only[GSP,List.getElem?_cons_succ,List.getElem?_cons_zero,Option.some.injEq,Prod.mk.injEq]at h;obtain⟨rfl,rfl,rfl⟩:=h;exact⟨List.mem_cons_self,by kernel_rfl,by kernel_rfl,by kernel_rfl⟩
  ·simp[GSP]at h
 ·intro ws vs hgw hvs;rw[Tryd.params3]at hvs
  match vs,hvs with
  |[u0,u1,u2,u3],⟨⟨a0,b0⟩,⟨a1,b1⟩,⟨a2,b2⟩,⟨a3,b3⟩,_⟩=>obtain⟨n0,e0,_⟩:=a0.int_inv Tryd.underlying3;obtain⟨n1,e1,_⟩:=a1.int_inv Tryd.underlying3;obtain⟨x2,l2,e2,i2⟩:=ints_of a2;obtain⟨x3,l3,e3,i3⟩:=intss_of a3;obtain rfl:=one_cells e0 (b0 (by kernel_rfl));obtain rfl:=one_cells e1 (b1 (by kernel_rfl));obtain rfl:=one_cells e2 (b2 (by kernel_rfl));obtain rfl:=one_cells e3 (b3 (by kernel_rfl));obtain⟨H',h⟩:=dec.MuxViews_s 0 (tab_of hgw) (ptab_of hgw) n0 n1 i2 i3;exact⟨44,H',h⟩
theorem laid_met(os:Os):laidMet Tryd.prog Rows.muxViewsRow.laid ((laidW Tryd.prog (fun _=>0) Rows.muxViewsRow.laid os).forCall (fun _ _=>0) ⟨#[],#[.int .i64 0,.int .i64 0,.slice none 0 0,.slice none 0 0],[]⟩).memory:=laidMet_of_run3 30 (by kernel_rfl) (by kernel_rfl) (by kernel_rfl)
theorem reads(os:Os)(H:Type)(enc:TypeId×Value→H):∃places,DataW.whole enc Tryd.prog ((laidW Tryd.prog (fun _=>0) Rows.muxViewsRow.laid os).forCall (fun _ _=>0) ⟨#[],#[.int .i64 0,.int .i64 0,.slice none 0 0,.slice none 0 0],[]⟩).memory Tryd.f3.params.toList Rows.muxViewsSpec.vars false (#[.int .i64 0,.int .i64 0,.slice none 0 0,.slice none 0 0]:Array Value).toList 8=some ([.lit (.int .i64 0),.lit (.int .i64 0),.nil,.nil],[],places):=⟨[],by kernel_rfl⟩
set_option maxRecDepth 100000 in
theorem lifted(os:Os)(started:os.Started)(H:Type)(enc:TypeId×Value→H)(F:Stop.Interp):ReturnsInHanded {} Tryd.checked os 3 .any ((OpenSpec.ofChange Rows.muxViewsSpec).preRow enc Tryd.prog Tryd.f3 Rows.muxViewsRow.domain false Rows.muxViewsRow.laid) (((OpenSpec.ofChange Rows.muxViewsSpec).at F).post enc Tryd.prog Tryd.f3 false true false false):=by
 obtain⟨places,hx⟩:=reads os H enc;refine returnsInHanded_of_row (C:=Tryd.checked) (s:=(OpenSpec.ofChange Rows.muxViewsSpec)) own started (by kernel_rfl) Tryd.func3 (witness_row_atRef (enc:=enc) (C:=Tryd.checked) false (laidW Tryd.prog (fun _=>0) Rows.muxViewsRow.laid os) #[.int .i64 0,.int .i64 0,.slice none 0 0,.slice none 0 0] rfl (by kernel_rfl) (by kernel_rfl) (by kernel_rfl) (OpenSpec.preRow_of_cond 8 hx (by kernel_rfl) (fun k hk=>by cases hk) (by kernel_rfl) (laid_met os))) ?_;intro W base args ds gs before hval hW _ hcond _ hL hsh _;exact contract H enc W base args ds gs before hval hW hL hsh
theorem over:Rows.muxViewsRow.holds Tryd.pinned (OpenSpec.ofChange Rows.muxViewsSpec):=OpenClaim.holds_of_cond 3 Tryd.f3 rfl rfl rfl rfl rfl rfl rfl ⟨rfl,rfl,rfl,rfl,rfl⟩ rfl rfl rfl rfl rfl (by kernel_rfl) Tryd.func3 (by kernel_rfl) (of_decide_eq_true (by kernel_rfl)) (by unfold Func.isWrapper;first|(rw[if_pos (by decide+kernel)];kernel_rfl)|(rw[if_neg (by decide+kernel)];exact⟨rfl,rfl⟩)) (fun os started H enc _ F=>by rw[OpenClaim.pre_eq_preRow];exact lifted os started H enc F)
theorem muxViews_holds:Rows.MuxViewsCardSaid:=Claim7.holds_tied_plain_at .later [] _ _ _ _ over (fun _ h=>by cases h) (by kernel_rfl) (fun _ h=>by cases h) muxViews_row_tie rfl ⟨rfl,rfl⟩ (by kernel_rfl) rfl (fun f fn hf hfn=>by
 obtain rfl:f=3:=Option.some.inj ((show Tryd.prog.funcNamed "porthole/portholelaw23.MuxViews" =some 3 by kernel_rfl).symm.trans hf)|>.symm;obtain rfl:fn=Tryd.f3:=(Option.some.inj (Tryd.func3.symm.trans hfn)).symm;refine⟨by kernel_rfl,fun j t ht=>?_⟩;rw[Tryd.params3]at ht;have hm:=Array.mem_of_getElem? ht;simp only[List.mem_toArray,List.mem_cons,List.not_mem_nil,or_false]at hm;rcases hm with rfl|rfl|rfl|rfl
 ·exact(show Tryd.prog.wantsStandIn 3=false by kernel_rfl)
 ·exact(show Tryd.prog.wantsStandIn 3=false by kernel_rfl)
 ·exact(show Tryd.prog.wantsStandIn 22=false by kernel_rfl)
 ·exact(show Tryd.prog.wantsStandIn 23=false by kernel_rfl))
 (by kernel_rfl)
end Go.Proofs.YtjjchnjcmnkpdaaDoor.mviews

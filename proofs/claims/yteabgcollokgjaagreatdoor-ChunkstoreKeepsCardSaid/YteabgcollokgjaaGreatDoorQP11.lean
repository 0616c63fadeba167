/- Q -/
import Derived.Test.YteabgcollokgjaaGreatDoorQP10
import Derived.Laws.MakeOwn
set_option linter.unusedSimpArgs false
set_option linter.unusedVariables false
set_option maxRecDepth 100000
set_option maxHeartbeats 32000000
open Go.Lib (hid)
open List renaming getD_eq_getElem?_getD → zA,length_take → zB,length_map → zC,getElem?_eq_getElem → zD,take_succ_eq_append_getElem → zE,getElem?_take_of_lt → zF
open Nat renaming le_refl → zG
namespace Go.Proofs.YteabgcollokgjaaGreatDoor
section
open Go.RowKit Go.MapKept Go.ChangeMaps Go.Shelf
theorem own_iter {w:World} {base:Nat} {e:TypeId} {size n:Nat} {v:Value} {xs:List Value} (h:w.ownsRow base e size v n xs) {r:Nat} {m:Option Nat} {s:Nat} {seen:Array Nat} {c:Nat} (hr:w.heap[r]? =some (.mapIter m s seen c)):some r≠v.ownBlock:=by
 rcases h.2 with ⟨rfl,_⟩ | ⟨g',cap,cur,rfl,_,hh,_⟩
 · simp [Value.ownBlock]
 intro he;have:r=g':=by simpa [Value.ownBlock] using he
 subst this;rw [hr] at hh;cases hh
theorem RIs.own_ne {α β:Type} {ok:α->Prop} {kv:α->Value} {vv:β->Value} {w:World} {b r:Nat} {L done:List (α×β)} {cnt:Nat} (h:RIs ok kv vv w b r L done cnt) {base:Nat} {e:TypeId} {size n:Nat} {v:Value} {xs:List Value} (ho:w.ownsRow base e size v n xs):some r≠v.ownBlock:=by
 obtain ⟨es,clock,since,seen,c0,is,_,_,_,_,hr,_⟩:=h;exact own_iter ho hr
theorem MapIs.own_ne {α β:Type} {ok:α->Prop} {kv:α->Value} {vv:β->Value} {w:World} {b:Nat} {L:List (α×β)} (h:MapIs ok kv vv w b L) {base:Nat} {e:TypeId} {size n:Nat} {v:Value} {xs:List Value} (ho:w.ownsRow base e size v n xs):some b≠v.ownBlock:=by
 obtain ⟨es,clock,h1,_⟩:=h;rcases ho.2 with ⟨rfl,_⟩ | ⟨g',cap,cur,rfl,_,hh,_⟩
 · simp [Value.ownBlock]
 intro he;have:b=g':=by simpa [Value.ownBlock] using he
 subst this;rw [h1] at hh;cases hh
theorem nodup_le {l:List Nat} {n:Nat} (hn:l.Nodup) (h:∀ i∈l,i<n):l.length<=n:=by
 have h2:(l++(List.range n).filter (fun i=>decide (i ∉ l))).Nodup:=by
  refine List.nodup_append.2 ⟨hn,List.nodup_range.filter _,fun a ha b hb e=>?_⟩;subst e;simp at hb;exact hb.2 ha
 have hp:=(List.perm_ext_iff_of_nodup h2 (List.nodup_range (n:=n))).2 (fun a=>by
  simp only [List.mem_append,List.mem_filter,List.mem_range,decide_eq_true_eq];constructor
  · rintro (h1 | h1)
    · exact h a h1
    exact h1.1
  intro h1;by_cases ha:a∈l
  · exact .inl ha
  exact .inr ⟨h1,ha⟩)
 have:=hp.length_eq;rw [List.length_append,List.length_range] at this;omega
theorem RIs.len {α β:Type} {ok:α->Prop} {kv:α->Value} {vv:β->Value} {w:World} {b r:Nat} {L done:List (α×β)} {cnt:Nat} (h:RIs ok kv vv w b r L done cnt):done.length<=L.length:=by
 obtain ⟨es,clock,since,seen,c0,is,_,_,_,_,_,_,_,_,_,hnd,_,hd⟩:=h
 have h1:is.length=done.length:=by
  have:=congrArg List.length hd;simpa using this
 have h2:∀ i∈is,i∈List.range L.length:=by
  intro i hi;have:L[i]? ∈is.map (fun i=>L[i]?):=List.mem_map.2 ⟨i,hi,rfl⟩;rw [hd] at this;obtain ⟨c,_,hc⟩:=List.mem_map.1 this;exact List.mem_range.2 (List.getElem?_eq_some_iff.1 hc.symm).1
 have:=nodup_le hnd (fun i hi=>List.mem_range.1 (h2 i hi));omega
theorem own_onB {w w':World} {base:Nat} {e:TypeId} {size n:Nat} {v:Value} {xs:List Value} (h:w.ownsRow base e size v n xs) (hb:Below w.heap.size w w'):w'.ownsRow base e size v n xs:=
 h.kept (row:=none) (only_of_below hb none) (by
  cases hv:v.ownBlock with
  | none=>exact .inl rfl
  | some k=>exact .inr (by simp))
theorem wpList_next_ch (w:World) {ops:Array Oper} {rest:List Oper} {o:Oper} {a:Act} {Q:Exit->Act->World->Prop} (hg:o.guard=none) (it:Operand) (hop:o.op=Op.next it false) (b r:Nat) (L done:Chs) (cnt:Nat)
 (hit:a.eval it= .pointer (some ⟨r,0,none⟩)) (h:RIs okID vID vPl w b r L done cnt)
 (hDone:done.Perm L->wpList Tryz.prog ops Q rest (a.put o.dst (.tuple #[.bool false])) w)
 (hMore:∀ (i:ID) (pl:Pl) (w':World) (cnt':Nat),(i,pl)∈L->RIs okID vID vPl w' b r L (done++[(i,pl)]) cnt'->cnt'<cnt->w.grownBy w' (some r)->Hid (w'.heap.size=w.heap.size)->
   (Instr.entry (.pointer (some ⟨r,0,none⟩))).run Tryz.prog w'= .ok (.tuple #[.agg #[.int .u64 i.1,.int .i64 i.2],.agg #[.slice pl.A pl.len pl.cap,.int .i64 pl.f,.int .i64 pl.o]]) w'->wpList Tryz.prog ops Q rest (a.put o.dst (.tuple #[.bool true,.agg #[.int .u64 i.1,.int .i64 i.2],.agg #[.slice pl.A pl.len pl.cap,.int .i64 pl.f,.int .i64 pl.o]])) w'):
 wpList Tryz.prog ops Q (o::rest) a w:=
 wpList_next_is w hg it hop b r L done cnt hit h hDone (fun c w' cnt' h1 h2 h3 h4 h5 h6=>hMore c.1 c.2 w' cnt' h1 h2 h3 h4 h5 h6)
theorem own_rowI {w:World} {base g n cap:Nat} {xs:List ID} (h:w.ownsRow base 31 2 (.slice (some ⟨g,0,none⟩) n cap) n (xs.flatMap encID)):n=xs.length/\RowI w g xs/\g<w.heap.size/\base<=g:=by
 have hl:=h.1;rw [flat_len encID_len] at hl;have hn:n=xs.length:=by omega
 have hlt:=h.lt g rfl;refine ⟨hn,?_,hlt.2,hlt.1⟩;rcases h.2 with ⟨hv,_⟩ | ⟨g',cap',cur,hv,_,hh,hc1,hcs,hcs2,htk⟩
 · cases hv
 injection hv with h1 h2 h3;injection h1 with h1;injection h1 with h1;subst h1;refine ⟨cur,hh,?_,fun j hj=>?_⟩
 · show xs.length*2<=cur.size;have:=congrArg List.length htk;rw [zB,flat_len encID_len] at this;simp at this;omega
 have e0:=flat_at encID_len id0 xs j 0 hj (by omega);have e1:=flat_at encID_len id0 xs j 1 hj (by omega);rw [<- htk,zF (by omega)] at e0 e1;exact ⟨by simpa [encID] using e0,by simpa [encID] using e1⟩
def RI (w:World) (H:Nat) (A:Option Addr) (ys:List ID):Prop:=(A=none->ys=[])/\∀ ad,A=some ad->∃ g,ad=⟨g,0,none⟩/\RowI w g ys/\H<=g/\g<w.heap.size
def IdsPost (q:Pl->Bool) (C:Chs) (w:World) (e:Ending) (w':World):Prop:=
 ∃ A c ys,e= .returned (.slice A ys.length c)/\ys.Perm ((C.filter (fun c=>q c.2)).map (·.1))/\SortedI ys/\RI w' w.heap.size A ys/\Below w.heap.size w w'
def IdsPostC (q:Pl->Bool) (C:Chs) (w:World) (e:Ending) (w':World):Prop:=
 ∃ A c ys,e= .returned (.slice A ys.length c)/\ys.Perm ((C.filter (fun c=>q c.2)).map (·.1))/\SortedI ys/\RI w' w.heap.size A ys/\Below w.heap.size w w'/\ys.length<=c
theorem IdsPostC.less {q:Pl->Bool} {C:Chs} {w:World} {e:Ending} {w':World} (h:IdsPostC q C w e w'):IdsPost q C w e w':=by
 obtain ⟨A,c,ys,h1,h2,h3,h4,h5,_⟩:=h;exact ⟨A,c,ys,h1,h2,h3,h4,h5⟩
theorem filter_snoc (q:Pl->Bool) (D:Chs) (c:ID×Pl):((D++[c]).filter (fun c=>q c.2)).map (·.1)=(D.filter (fun c=>q c.2)).map (·.1)++if q c.2 then [c.1] else []:=by
 rw [List.filter_append,List.map_append];congr 1
 by_cases h:q c.2<;>simp [h]
theorem two_new (W:World) (x y:Value) (t:TypeId) (H:Nat) (hH:W.heap.size=H):∀ j u,[x,y][j]? =some u->(W.alloc (.cells #[x,y] t)).cell? ((⟨H,0,none⟩:Addr).add j)=some u:=by
 intro j u hu;rw [lit_add,Nat.zero_add,new_cell W t #[x,y] H hH j];simpa using hu
theorem ids_anyC (F:Nat) (q:Pl->Bool) (ps cm:Nat) (C:Chs) (w:World) (hc:w.cell? ⟨ps,2,none⟩=some (.map (some cm))) (hm:MapIs okID vID vPl w cm C) (hn:((C.filter (fun c=>q c.2)).map (·.1)).length<=49) (hC:C.length<=1000000)
 (hF:∀ args W,(callFunc F args).run Tryz.prog W= .ok (.enter F args) W)
 (hq:∀ pl W,Calls Tryz.prog F #[.agg #[.slice pl.A pl.len pl.cap,.int .i64 pl.f,.int .i64 pl.o]] W (fun e w'=>e= .returned (.bool (q pl))/\Below W.heap.size W w')):
 Calls Tryz.prog 90 #[vPtr ps,.func (.func F) #[] #[]] w (IdsPostC q C w):=by
 obtain ⟨i0,hi,hz0,hz1,hz2⟩:=info_parts info31;have Hm:=hid hm;have HN:=hid hn;have HQ:=hid hq;have hbw:=hm.lt;clear hm hq hn;go_enter Tryz.func90,Tryz.ntmps90;go_wp2_with (at_range;refine wpList_range_is _ rfl _ 128 rfl 31 138 Tryz.underlying128 cm C rfl Hm.out ?_;intro w0 hrg0 hg0 hs0)
 have Hrg0:=hid hrg0;have Hb0:Hid (Below w.heap.size w w0):=(Below.refl w.heap.size w).grown hg0 (zG _) (by simp);clear hrg0 hg0 hs0;go_frame
 go_loopw [5] (fun v5 wr=>∃ (done:Chs) (n:Nat) (A:Option Addr) (cap cnt:Nat),v5= .slice A n cap/\RIs okID vID vPl wr cm w.heap.size C done cnt/\wr.ownsRow w.heap.size 31 2 (.slice A n cap) n (((done.filter (fun c=>q c.2)).map (·.1)).flatMap encID)/\Below w.heap.size w wr) (fun _ wr=>wr.rangeLeft cm w.heap.size)
 case atStart=>exact ⟨[],0,none,0,_,rfl,Hrg0.out,World.ownsRow_nil _ _ _ _,Hb0.out⟩
 obtain ⟨done,n,A,cap,cnt,rfl,hrg,hown,hb⟩:=hrel;have hsz:=hb.size;have Hleft:=hid hrg.left_eq;have Hrg:=hid hrg;have Hown:=hid hown;have Hb:=hid hb;clear hrg hown hb
 go_wp2_with (first
  | (at_next;refine wpList_next_ch _ rfl _ rfl cm w.heap.size C done cnt rfl Hrg.out (fun hp=>?_) (fun i pl w1 cnt1 hc1 hrg1 hlt1 hg1 hs1 hen=>?_))
  | (at_builtin;refine halt_ ?_)
  | (go_at_call 103;refine halt_ ?_))
 · have hlen:n=((done.filter (fun c=>q c.2)).map (·.1)).length:=by
    have:=Hown.out.1;rw [flat_len encID_len] at this;omega
   have hpm:((done.filter (fun c=>q c.2)).map (·.1)).Perm ((C.filter (fun c=>q c.2)).map (·.1)):=(hp.filter _).map _;have hl12:((done.filter (fun c=>q c.2)).map (·.1)).length<=49:=by rw [hpm.length_eq];exact HN.out
   obtain ⟨zs,HZ⟩:∃ zs,Hid ((done.filter (fun c=>q c.2)).map (·.1)=zs):=⟨_,rfl⟩;rw [HZ.out] at hlen hpm hl12 Hown;have Hpm:=hid hpm;clear hp hpm;subst hlen;cases A with
   | none=>
    have hz0:zs=[]:=by
     rcases Hown.out.2 with ⟨hv,hx⟩ | ⟨g,cap',cur,hv,_⟩
     · injection hv with _ h2 _;exact List.eq_nil_of_length_eq_zero h2
     cases hv
    subst hz0
    have hcap:cap=0:=by
     rcases Hown.out.2 with ⟨hv,hx⟩ | ⟨g,cap',cur,hv,_⟩
     · injection hv
     cases hv
    subst hcap;refine (sortN_any wr).mono ?_;rintro e w2 ⟨rfl,rfl⟩;go_wp2_with fail
    go_ret;exact ⟨none,0,[],rfl,Hpm.out,List.Pairwise.nil,⟨fun _=>rfl,(fun ad e=>by cases e)⟩,Hb.out,zG _⟩
   | some ad=>
    obtain ⟨g,rfl⟩:∃ g,ad=⟨g,0,none⟩:=by
     rcases Hown.out.2 with ⟨hv,_⟩ | ⟨g,cap',cur,hv,_⟩
     · cases hv
     injection hv with h1 _ _;injection h1 with h1;exact ⟨g,h1⟩
    obtain ⟨_,hrow,hg2,hbg⟩:=own_rowI Hown.out
    have hlc:zs.length<=cap:=by
     rcases Hown.out.2 with ⟨hv,_⟩ | ⟨g',cap',cur,hv,_,_,hc1,_⟩
     · cases hv
     injection hv with _ _ h3;omega
    refine (sortI49_any g cap zs wr hrow (by omega) hg2).mono ?_;rintro e w2 ⟨rfl,⟨ys,hy1,hy2,hy3⟩,hgr⟩;have Y1:=hid hy1;have Y2:=hid hy2;have Y3:=hid hy3;have HG:=hid hgr;have hlz:zs.length=ys.length:=hy1.length_eq.symm;clear hy1 hy2 hy3 hgr hrow;rw [hlz] at hlc |-; go_wp2_with fail
    go_ret;refine ⟨some ⟨g,0,none⟩,cap,ys,rfl,Y1.out.trans Hpm.out,Y2.out,⟨(fun e=>by cases e),fun ad e=>?_⟩,Hb.out.grown HG.out Hb.out.size (fun k hk=>by injection hk with hk;omega),hlc⟩;injection e with e;subst e;exact ⟨g,rfl,Y3.out,hbg,Nat.lt_of_lt_of_le hg2 HG.out.size⟩
 have Hc1:=hid hc1;have K1:Hid (w1.ownsRow w.heap.size 31 2 (.slice A n cap) n (((done.filter (fun c=>q c.2)).map (·.1)).flatMap encID)):=Hown.out.kept hg1 (.inr (fun e=>Hrg.out.own_ne Hown.out e.symm));have Hb1:Hid (Below w.heap.size w w1):=Hb.out.grown hg1 hsz (fun k hk=>by injection hk with hk;omega);have hsz1:=Hb1.out.size;have HF:=hid (filter_snoc q done (i,pl));have Hrg1:=hid hrg1;have Hlt1:=hid hlt1
 have hdl:n<=1000000:=by
  have h1:=hrg1.len;have h2:=K1.out.1;rw [flat_len encID_len,zC] at h2;have h3:=List.length_filter_le (fun c:ID×Pl=>q c.2) done;simp at h1;omega
 clear hc1 hrg1 hlt1 hg1 hen;have IB:Hid (IsB ((w1.alloc (.cells #[.int .u64 i.1,.int .i64 i.2] 31)).alloc (.cells #[.slice pl.A pl.len pl.cap,.int .i64 pl.f,.int .i64 pl.o] 138)) w1.heap.size 31 #[.int .u64 i.1,.int .i64 i.2]):=(IsB.new _ _ _).alloc _;refine (HQ.out pl _).mono ?_;rintro e w2 ⟨rfl,hb2⟩;have K2:Hid (w2.ownsRow w.heap.size 31 2 (.slice A n cap) n (((done.filter (fun c=>q c.2)).map (·.1)).flatMap encID)):=own_onB ((K1.out.alloc _).alloc _) hb2;have Hb2:Hid (Below w.heap.size w w2):=((Hb1.out.alloc hsz1 _).alloc (by simp;omega) _).trans (hb2.mono (by simp;omega));have Hrg2:Hid (RIs okID vID vPl w2 cm w.heap.size C (done++[(i,pl)]) cnt1):=((Hrg1.out.alloc _).alloc _).on hb2;have IB2:=hid (IB.out.on hb2);have k0:w2.cell? ⟨w1.heap.size,0,none⟩=some (.int .u64 i.1):=IB2.out.cell 0;have k1:w2.cell? ⟨w1.heap.size,1,none⟩=some (.int .i64 i.2):=IB2.out.cell 1;have hs2:=Hb2.out.size;clear hb2;cases hq:q pl with
 | false=>
  have HQf:=hid hq;clear hq;go_wp2_with fail
  go_roundw
  case rel=>
   refine ⟨done++[(i,pl)],n,A,cap,cnt1,rfl,Hrg2.out,?_,Hb2.out⟩;rw [HF.out];simp only [HQf.out];simpa using K2.out
  rw [Hrg2.out.left_eq,Hleft.out];exact Hlt1.out
 | true=>
  have HQt:=hid hq;clear hq;go_wp2_with (at_builtin;refine halt_ ?_)
  refine wpList_append_lies _ rfl _ _ _ rfl w.heap.size 31 i0 _ 2 16 Tryz.underlying38 hi hz0 hz1 hz2 rfl (by decide) _ n _ rfl (K2.out.alloc _) ⟨w2.heap.size,0,none⟩ 1 1 [.int .u64 i.1,.int .i64 i.2] rfl rfl (two_new _ _ _ _ _ rfl) (encID_one i) (by omega) (by unfold maxLen;omega) (by omega) (by simp;omega) (w2.heap.size+1) (by simp) ?_;intro g2 cap2 w4 hown4 hgrow hat hltg;have Hown4:=hid hown4;have Hrg4:Hid (RIs okID vID vPl w4 cm w.heap.size C (done++[(i,pl)]) cnt1):=(Hrg2.out.alloc _).kept hgrow (Hrg2.out.map.own_ne K2.out) (Hrg2.out.own_ne K2.out);have Hb4:Hid (Below w.heap.size w w4):=(Hb2.out.alloc hs2 _).grown hgrow (by simp;omega) (fun k hk=>(K2.out.lt k hk).1);clear hown4 hgrow hat k0 k1;go_wp2_with fail
  go_roundw
  case rel=>
   refine ⟨done++[(i,pl)],n+1,some ⟨g2,0,none⟩,cap2,cnt1,rfl,Hrg4.out,?_,Hb4.out⟩;rw [HF.out];simp only [HQt.out,if_true];rw [List.flatMap_append];exact Hown4.out
  rw [Hrg4.out.left_eq,Hleft.out];exact Hlt1.out
theorem ids_any (F:Nat) (q:Pl->Bool) (ps cm:Nat) (C:Chs) (w:World) (hc:w.cell? ⟨ps,2,none⟩=some (.map (some cm))) (hm:MapIs okID vID vPl w cm C) (hn:((C.filter (fun c=>q c.2)).map (·.1)).length<=49) (hC:C.length<=1000000)
 (hF:∀ args W,(callFunc F args).run Tryz.prog W= .ok (.enter F args) W)
 (hq:∀ pl W,Calls Tryz.prog F #[.agg #[.slice pl.A pl.len pl.cap,.int .i64 pl.f,.int .i64 pl.o]] W (fun e w'=>e= .returned (.bool (q pl))/\Below W.heap.size W w')):
 Calls Tryz.prog 90 #[vPtr ps,.func (.func F) #[] #[]] w (IdsPost q C w):=(ids_anyC F q ps cm C w hc hm hn hC hF hq).mono fun _ _ h=>h.less
end
section
open Go.RowKit
theorem halt_q {p:Prop} (h:Hid p):p:=h
theorem rint_u {p q:Nat} {w W:World} (h:p=q) (hw:w=W):Ending.returned (.int .u64 ((q:Nat):Int))= .returned (.int .u64 ((p:Nat):Int))/\w=W:=⟨by rw [h],hw⟩
theorem fadd_any (a b:Nat) (w:World) (ha:a<2305843009213693951) (hb:b<2305843009213693951):Calls Tryz.prog 141 #[.int .u64 (a:Int),.int .u64 (b:Int)] w fun e w'=>e= .returned (.int .u64 (((a+b) % pP:Nat):Int))/\w=w':=by
 by_cases h:a+b<2305843009213693951
 · have e1:Hid ((a+b) % pP=a+b):=Nat.mod_eq_of_lt h;have h':¬ (2305843009213693951<=(a:Int)+b):=by omega
   go_enter Tryz.func141,Tryz.ntmps141;go_wp2
   go_ret;exact rint_u (q:=a+b) e1.out rfl
 have e1:Hid ((a+b) % pP=a+b-2305843009213693951):=by
  rw [Hid,Nat.mod_eq_sub_mod (by unfold pP;omega)];exact Nat.mod_eq_of_lt (by unfold pP;omega)
 have h':2305843009213693951<=(a:Int)+b:=by omega
 go_enter Tryz.func141,Tryz.ntmps141;go_wp2
 go_ret;have e2:((a+b-2305843009213693951:Nat):Int)=(a:Int)+b-2305843009213693951:=by omega
 rw [e1.out,e2];exact ⟨rfl,rfl⟩
theorem mask61 (a:Nat) (ha:a<18446744073709551616):bits .and .u64 (a:Int) 2305843009213693951=((a % 2305843009213693952:Nat):Int):=by
 have h:=bits_and_u64_nat a 2305843009213693951 ha (by omega);have e:a &&& 2305843009213693951=a % 2305843009213693952:=Nat.and_two_pow_sub_one_eq_mod a 61;rw [e] at h;exact h
theorem or3 (x y:Nat) (hy:y<8):x*8 ||| y=x*8+y:=by
 have:=Nat.two_pow_add_eq_or_of_lt (i:=3) (b:=y) (by omega) x;rw [show 2^3*x=x*8 by omega] at this;exact this.symm
theorem prod_lt {a b:Nat} (ha:a<2305843009213693951) (hb:b<2305843009213693951):a*b<pP*pP:=Nat.mul_lt_mul'' (by unfold pP;exact ha) (by unfold pP;exact hb)
theorem mul_lo (m:Nat):(bits .and .u64 ((m:Int) % 18446744073709551616) 2305843009213693951).tmod 2305843009213693951=((m % 18446744073709551616 % 2305843009213693952 % pP:Nat):Int):=by
 have e:(m:Int) % 18446744073709551616=((m % 18446744073709551616:Nat):Int):=by omega
 rw [e,mask61 _ (Nat.mod_lt _ (by omega)),Int.tmod_eq_emod_of_nonneg (by omega)];unfold pP;omega
theorem mul_hi (m:Nat) (hm:m<pP*pP):bits .or .u64 (IntKind.u64.wrap ((m:Int) / 18446744073709551616*8)) ((m:Int) % 18446744073709551616 / 2305843009213693952)=((m / 18446744073709551616*8+m % 18446744073709551616 / 2305843009213693952:Nat):Int):=by
 have hh:=mul_high m hm
 have e1:IntKind.u64.wrap ((m:Int) / 18446744073709551616*8)=((m / 18446744073709551616*8:Nat):Int):=by
  rw [IntKind.wrap_u64];omega
 have e2:(m:Int) % 18446744073709551616 / 2305843009213693952=((m % 18446744073709551616 / 2305843009213693952:Nat):Int):=by omega
 rw [e1,e2,bits_or_u64_nat _ _ (by omega) (by omega),or3 _ _ (by omega)]
theorem mul_sum (m:Nat) (hm:m<pP*pP):(m % 18446744073709551616 % 2305843009213693952 % pP+(m / 18446744073709551616*8+m % 18446744073709551616 / 2305843009213693952) % pP) % pP=m % pP:=by
 rw [<- Nat.add_mod,mul_words m hm]
theorem fmul_any (a b:Nat) (w:World) (ha:a<2305843009213693951) (hb:b<2305843009213693951):Calls Tryz.prog 142 #[.int .u64 (a:Int),.int .u64 (b:Int)] w fun e w'=>e= .returned (.int .u64 (((a*b) % pP:Nat):Int))/\w=w':=by
 have HP:=hid (prod_lt ha hb);go_enter Tryz.func142,Tryz.ntmps142;go_wp2_with (first | (go_at_call 185;refine (Tryz.bits_Mul64 a b (by omega) (by omega) _).mono ?_;rintro e w' ⟨rfl,hw⟩;rw [hw]) | (go_at_call 141;refine halt_q ?_))
 have e1:=mul_lo (a*b);have e2:=mul_hi (a*b) HP.out;rw [Int.natCast_mul] at e1 e2
 have e3:(((a*b / 18446744073709551616*8+a*b % 18446744073709551616 / 2305843009213693952:Nat):Int)).tmod 2305843009213693951=(((a*b / 18446744073709551616*8+a*b % 18446744073709551616 / 2305843009213693952) % pP:Nat):Int):=by
  rw [Int.tmod_eq_emod_of_nonneg (by omega)];unfold pP;omega
 rw [e2,e1,e3];refine (fadd_any (a*b % 18446744073709551616 % 2305843009213693952 % pP) ((a*b / 18446744073709551616*8+a*b % 18446744073709551616 / 2305843009213693952) % pP) w (Nat.mod_lt _ pP_pos) (Nat.mod_lt _ pP_pos)).mono ?_;rintro e w' ⟨rfl,rfl⟩;rw [mul_sum _ HP.out];clear e1 e2 e3;go_wp2_with fail
 go_ret;exact ⟨rfl,rfl⟩
theorem fp_byte (bs:List UInt8) (x:UInt8):(fpSum bs*747382712868975713 % pP+(x.toNat+1)) % pP=fpSum (bs++[x]):=by
 rw [fpSum_snoc,fpStep,Nat.add_mod,Nat.mod_mod, <- Nat.add_mod];rfl
def RS (w:World) (A:Option Addr) (bs:List UInt8):Prop:=(A=none->bs.length=0)/\∀ ad,A=some ad->∃ g o,ad=⟨g,o,none⟩/\∀ j,j<bs.length->w.cell? ⟨g,o+j,none⟩=some (encU (bs.getD j 0))
theorem RS.sb {w:World} {A:Option Addr} {bs:List UInt8} (h:RS w A bs):SB w A bs:=by
 refine ⟨h.1,fun ad e j u hu=>?_⟩;obtain ⟨g,o,rfl,hc⟩:=h.2 ad e;obtain ⟨hj,hu'⟩:=List.getElem?_eq_some_iff.1 hu;have hj':j<bs.length:=by simpa using hj
 rw [lit_add,hc j hj', <- hu',List.getElem_map,zA,zD hj'];rfl
theorem RB.rs {w:World} {d:BD} {bs:List UInt8} (h:RB w d bs):RS w d.A bs:=by
 obtain ⟨h1,h2,h3,h4⟩:=h;refine ⟨fun e=>by have:=h3 e;omega,fun ad e=>?_⟩;obtain ⟨g,cur,rfl,hg,_,hc⟩:=h4 ad e;refine ⟨g,0,rfl,fun j hj=>?_⟩;rw [hg.cell,Nat.zero_add];refine hc j _ ?_;rw [List.getElem?_map,zA,zD hj];rfl
theorem RS.lt {w:World} {A:Option Addr} {bs:List UInt8} (h:RS w A bs) {g o:Nat} (e:A=some ⟨g,o,none⟩) (hp:0<bs.length):g<w.heap.size:=h.sb.lt _ e hp
theorem RS.on {w w':World} {A:Option Addr} {bs:List UInt8} (h:RS w A bs) (hb:Below w.heap.size w w'):RS w' A bs:=by
 refine ⟨h.1,fun ad e=>?_⟩;obtain ⟨g,o,rfl,hc⟩:=h.2 ad e;exact ⟨g,o,rfl,fun j hj=>by rw [hb.cell (p:=⟨g,o+j,none⟩) (h.lt e (by omega))];exact hc j hj⟩
theorem RS.sub {w:World} {g o:Nat} {bs:List UInt8} (h:RS w (some ⟨g,o,none⟩) bs) (k n:Nat) (hk:k+n<=bs.length):RS w (some ⟨g,o+k,none⟩) ((bs.drop k).take n):=by
 obtain ⟨g',o',e,hc⟩:=h.2 _ rfl;injection e with e1 e2 _;subst e1 e2;refine ⟨(fun e=>by cases e),fun ad e=>?_⟩;injection e with e;subst e;refine ⟨g,o+k,rfl,fun j hj=>?_⟩;simp only [zB,List.length_drop] at hj;have:=hc (k+j) (by omega);rw [Nat.add_assoc,this];congr 2
 rw [zA,zA,zF (by omega),List.getElem?_drop]
theorem take_snocU (bs:List UInt8) (k:Nat) (h:k<bs.length):bs.take (k+1)=bs.take k++[bs.getD k 0]:=by
 rw [zE h,zA,zD h];rfl
theorem Sum_any (A:Option Addr) (c:Nat) (bs:List UInt8) (w:World) (h:RS w A bs) (hn:bs.length<=1099511627776):Calls Tryz.prog 92 #[.slice A bs.length c] w fun e w'=>e= .returned (.int .u64 ((fpSum bs:Nat):Int))/\w=w':=by
 have H:=hid h;clear h;go_enter Tryz.func92,Tryz.ntmps92;go_wp2_with fail
 go_loop [3,8] (fun v i=>∃ k:Nat,k<=bs.length/\i= .int .i64 k/\v= .int .u64 ((fpSum (bs.take k):Nat):Int)) (fun _ i=>bs.length-(intOf i).toNat)
 case atStart=>exact ⟨0,Nat.zero_le _,rfl,by rw [List.take_zero,fpSum_nil];rfl⟩
 obtain ⟨k,hk,rfl,rfl⟩:=hrel;by_cases hlt:k<bs.length
 · cases A with
   | none=>exact absurd (H.out.1 rfl) (by omega)
   | some ad=>
    obtain ⟨g,o,rfl,hc⟩:=H.out.2 ad rfl;have hcl:w.cell? ⟨g,o+k,none⟩=some (.int .u8 (((bs.getD k 0).toNat:Nat):Int)):=hc k hlt;have HT:Hid ((fpSum (bs.take k)*747382712868975713 % pP+((bs.getD k 0).toNat+1)) % pP=fpSum (bs.take (k+1))):=by rw [Hid,take_snocU bs k hlt, <- fp_byte]
    have hf:=fpSum_lt (bs.take k);have HF:Hid (fpSum (bs.take k)<pP):=hf;clear hc hf;generalize hx:bs.getD k 0=x at *; have hx2:=x.toNat_lt;have HX:=hid hx;clear hx;generalize fpSum (bs.take k)=sm at *; generalize hs':fpSum (bs.take (k+1))=sm' at *; have HS:=hid hs';clear hs';have hm:=fun w=>fmul_any sm 747382712868975713 w HF.out (by omega);have hmt:sm*747382712868975713 % pP<pP:=Nat.mod_lt _ pP_pos;generalize sm*747382712868975713 % pP=t at *; have ha:=fun w=>fadd_any t (x.toNat+1) w hmt (by omega);rw [HT.out] at ha;simp only [Int.natCast_add,Int.natCast_one] at ha;have HM:=hid hm;have HA:=hid ha;clear hm ha hmt;go_wp2_with (first | (go_at_call 142;refine (HM.out _).mono ?_;rintro e w' ⟨rfl,rfl⟩) | (go_at_call 141;refine (HA.out _).mono ?_;rintro e w' ⟨rfl,rfl⟩))
    go_round
    case rel=>exact ⟨k+1,by omega,by go_num,by rw [HS.out]⟩
    simp [intOf];omega
 obtain rfl:k=bs.length:=by omega
 rw [List.take_length];go_wp2_with fail
 go_ret;exact ⟨rfl,rfl⟩
theorem Of_any (A:Option Addr) (c:Nat) (bs:List UInt8) (w:World) (h:RS w A bs) (hn:bs.length<=1099511627776):Calls Tryz.prog 31 #[.slice A bs.length c] w fun e w'=>e= .returned (.agg #[.int .u64 (fpOf bs).1,.int .i64 (fpOf bs).2])/\Below w.heap.size w w':=by
 have H:=hid (fun W (hW:RS W A bs)=>Sum_any A c bs W hW hn);have H1:=hid (h.on ((Below.refl _ w).alloc (zG _) (.cells #[.int .u64 0,.int .i64 0] 31)));clear h;simp only [fpOf];generalize fpSum bs=sm at *; go_enter Tryz.func31,Tryz.ntmps31;go_wp2_with (go_at_call 92;refine (H.out _ H1.out).mono ?_;rintro e w' ⟨rfl,rfl⟩)
 refine bodyPost_ret (v:=.agg #[.int .u64 ((sm:Nat):Int),.int .i64 ((bs.length:Nat):Int)]) ?_ rfl ⟨rfl,?_⟩
 · simp [results,Tryz.results31,go_sem]
 exact (Below.refl _ _).alloc (zG _) _
theorem bel1q (w:World) (o:Obj):Below w.heap.size w (w.alloc o):=(Below.refl _ _).alloc (zG _) o
theorem sb_one (w:World) (x:UInt8) (v:Int) (hv:((x.toNat:Nat):Int)=v):SB (w.alloc (.cells #[.int .u8 v] 5)) (some ⟨w.heap.size,0,none⟩) [x]:=by
 refine ⟨(fun e=>by cases e),fun ad e j u hu=>?_⟩;injection e with e;subst e
 have hj:j=0:=by
  have:=(List.getElem?_eq_some_iff.1 hu).1;simp at this;exact this
 subst hj;simp [encU] at hu;subst hu;rw [lit_add,(IsB.new w 5 #[.int .u8 v]).cell, <- hv];rfl
theorem le8_take (v k:Nat) (hk:k<8):(le8 v).take (k+1)=(le8 v).take k++[UInt8.ofNat (v / 2^(8*k))]:=by
 rw [zE (by rw [le8_len];exact hk)];congr 2
 simp [le8]
def RX (w:World) (d:BD) (bs:List UInt8):Prop:=RB w d bs∨(bs.length=d.len/\d.len=d.cap/\0<d.len/\SB w d.A bs)
theorem RX.of {w:World} {d:BD} {bs:List UInt8} (h:RB w d bs):RX w d bs:=.inl h
theorem RX.on {w w':World} {d:BD} {bs:List UInt8} (h:RX w d bs) (hb:Below w.heap.size w w'):RX w' d bs:=by
 rcases h with h | ⟨h1,h2,h3,h4⟩
 · exact .inl (h.on hb)
 exact .inr ⟨h1,h2,h3,h4.on hb h4.lt⟩
theorem run_append_full (w:World) (ty:TypeId) (d:BD) (bs:List UInt8) (hl:bs.length=d.len) (hc:d.len=d.cap) (h0:0<d.len) (hs:SB w d.A bs) (A:Option Addr) (c:Nat) (ns:List UInt8) (hsn:SB w A ns) (hp:0<ns.length) (hb:bs.length+ns.length<=1099511627776):
 ∃ d' w',(Builtin.append_ #[34,34] ty #[vB d,.slice A ns.length c]).run Tryz.prog w= .ok (vB d') w'/\d'.len=d.len+ns.length/\AppB w d (bs++ns) d' w':=by
 obtain ⟨i0,hi,hz0,hz1,hz2⟩:=info_parts info5;cases hA:A with
 | none=>
  have:=hsn.1 hA;omega
 | some a=>
  cases hd:d.A with
  | none=>
   have:=hs.1 hd;omega
  | some ad=>
   have hv:vB d= .slice (some ad) d.len d.cap:=by simp [vB,hd]
   have hlo:(bs.map encU).length=d.len*i0.size:=by rw [hz1,zC,Nat.mul_one,hl]
   have hln:(ns.map encU).length=ns.length*i0.size:=by rw [hz1,zC,Nat.mul_one]
   have hr:=run_append_grow (P:=Tryz.prog) w 34 ty 5 i0 _ Tryz.underlying34 hi hz0 ad d.len d.cap (bs.map encU) hlo (fun j u hu=>hs.2 ad hd j u hu) a ns.length c (ns.map encU) hln (hsn.2 a hA) (by omega) (by omega) (growslice_fits (by omega) (by rw [hz2];omega));have hge:=grownCap_ge w (d.len+ns.length) d.cap 5;refine ⟨⟨some ⟨w.heap.size,0,none⟩,d.len+ns.length,grownCap w (d.len+ns.length) d.cap 5⟩,_,by rw [hv];exact hr,rfl,?_,.inr ⟨w.heap.size,rfl,zG _,(Below.refl w.heap.size w).drew.alloc (by simp) _⟩⟩;refine new_bytes w.drew _ _ _ _ _ (by simp) (by simp;omega) hge ?_ (fun j u hu=>?_)
   · rw [Array.size_append,Array.size_append,List.size_toArray,List.size_toArray,size_zeroCells];simp [Value.cells];omega
   rw [List.map_append] at hu;have hj:=(List.getElem?_eq_some_iff.1 hu).1;rw [Array.getElem?_append_left (by simpa using hj),List.append_toArray,List.getElem?_toArray];exact hu
theorem wpList_append_rx {w:World} {ops:Array Oper} {rest:List Oper} {o:Oper} {a:Act} {Q:Exit->Act->World->Prop} (hgd:o.guard=none) (s x:Operand) (ho:o.op= .call { callee:=.builtin .append,args:= #[s,x],argTypes:= #[34,34] }) (d:BD) (bs:List UInt8) (hs:a.eval s=vB d) (h:RX w d bs)
 (A:Option Addr) (c:Nat) (ns:List UInt8) (hx:a.eval x= .slice A ns.length c) (hsrc:SB w A ns) (hp:0<ns.length) (hb:bs.length+ns.length<=1099511627776)
 (hK:∀ d' w',d'.len=d.len+ns.length->AppB w d (bs++ns) d' w'->wpList Tryz.prog ops Q rest (a.put o.dst (vB d')) w'):wpList Tryz.prog ops Q (o::rest) a w:=by
 rcases h with h | ⟨h1,h2,h3,h4⟩
 · exact wpList_append_bytes hgd s x ho d bs hs h A c ns hx hsrc hb hK
 refine wpList_plain hgd fun K hK'=>?_;obtain ⟨d',w',hr,h5,h6⟩:=run_append_full w o.type d bs h1 h2 h3 h4 A c ns hsrc hp hb;unfold Oper.wp execOp;simp only [ho,resolve,invoke,builtin,Sem.run_bind,Sem.run_pure,Result.andThen_ok,List.map_toArray,List.map_cons,List.map_nil,hs,hx,hr];exact hK' _ _ (hK d' w' h5 h6)
theorem number_any (d:BD) (bs:List UInt8) (v:Nat) (w0 w:World) (hr:RX w d bs) (hd:∀ g,blk d=some g->w0.heap.size<=g) (h0:Below w0.heap.size w0 w) (hv:v<18446744073709551616) (hn:bs.length<=1000000):
 Calls Tryz.prog 277 #[.slice d.A d.len d.cap,.int .u64 (v:Int)] w (NewB (bs++le8 v) w0):=by
 have HR:=hid hr;have HD:=hid hd;have H0:=hid h0;clear hr hd h0;go_enter Tryz.func277,Tryz.ntmps277;go_wp2_with fail
 go_loopw [0,6] (fun s i wr=>∃ (k:Nat) (d':BD),k<=8/\i= .int .i64 k/\s= .slice d'.A d'.len d'.cap/\RX wr d' (bs++(le8 v).take k)/\(0<k->RB wr d' (bs++(le8 v).take k))/\(∀ g,blk d'=some g->w0.heap.size<=g)/\Below w0.heap.size w0 wr) (fun _ i _=>8-(intOf i).toNat)
 case atStart=>exact ⟨0,d,by omega,rfl,rfl,by simpa using HR.out,(fun h=>absurd h (by omega)),HD.out,H0.out⟩
 obtain ⟨k,d',hk,rfl,rfl,hr,hrb,hd,hb⟩:=hrel;have RB1:=hid hrb;clear hrb;have R1:=hid hr;have D1:=hid hd;have B1:=hid hb;clear hr hd hb;by_cases hlt:k<8
 · go_wp2_with (at_builtin;refine halt_q ?_)
   have hx:(((UInt8.ofNat (v / 2^(8*k))).toNat:Nat):Int)=(v:Int) / 2^(8*k) % 256:=by
    rw [UInt8.toNat_ofNat',Int.natCast_emod,Int.natCast_ediv,Int.natCast_pow];rfl
   have hl8:((le8 v).take k).length<=8:=by rw [zB,le8_len];omega
   have S1:=sb_one wr _ _ hx;refine wpList_append_rx rfl _ _ rfl d' (bs++(le8 v).take k) rfl (R1.out.on (bel1q _ _)) (some ⟨wr.heap.size,0,none⟩) 1 [UInt8.ofNat (v / 2^(8*k))] rfl S1 (by simp) (by rw [List.length_append];simp only [List.length_cons,List.length_nil];omega) ?_;intro d2 w2 hl2 happ;obtain ⟨r1,r2,r3⟩:=happ.new (w0:=w0) D1.out (B1.out.trans ((bel1q wr _).mono B1.out.size));rw [List.append_assoc, <- le8_take v k hlt] at r1;have R2:=hid r1;have D2:=hid r2;have B2:=hid r3;clear r1 r2 r3 happ hl2 hx hl8 S1;unfold vB;go_wp2_with fail
   go_roundw
   case rel=>exact ⟨k+1,d2,by omega,by go_num,rfl,.inl R2.out,fun _=>R2.out,D2.out,B2.out⟩
   simp [intOf];omega
 go_wp2_with fail
 go_ret;refine ⟨d',rfl,?_,D1.out,B1.out⟩;have h:=RB1.out (by omega);rwa [List.take_of_length_le (by rw [le8_len];omega)] at h
theorem uintSize_any (v:Nat) (w:World) (hv:v<18446744073709551616):Calls Tryz.prog 309 #[.int .u64 (v:Int)] w fun e w'=>(∃ n:Nat,e= .returned (.int .i64 n)/\n<=100)/\w=w':=by
 go_enter Tryz.func309,Tryz.ntmps309;go_wp2_with fail
 go_loop [0,3] (fun x n=>∃ (k u:Nat),k<=64/\n= .int .i64 ((k:Nat):Int)/\x= .int .u64 ((u:Nat):Int)/\u*2^k<=v) (fun x _=>(intOf x).toNat)
 case atStart=>exact ⟨1,v / 128,by omega,rfl,by go_num,by omega⟩
 obtain ⟨k,u,hk,rfl,rfl,hu⟩:=hrel;by_cases hp:0<u
 · have hk2:k<64:=by
    rcases Nat.lt_or_ge k 64 with h | h
    · exact h
    exfalso
    have:2^64<=2^k:=Nat.pow_le_pow_right (by omega) h;have h2:1*2^k<=u*2^k:=Nat.mul_le_mul_right _ hp;omega
   have hu2:Hid (u / 128*2^(k+1)<=v):=by
    rw [Hid,Nat.pow_succ];have h1:u / 128*(2^k*2)=u / 128*2*2^k:=by rw [Nat.mul_comm (2^k) 2, <- Nat.mul_assoc]
    rw [h1];exact Nat.le_trans (Nat.mul_le_mul_right _ (by omega)) hu
   clear hu;go_wp2_with fail
   go_round
   case rel=>exact ⟨k+1,u / 128,by omega,by go_num,by go_num,hu2.out⟩
   simp [intOf];omega
 clear hu;go_wp2_with fail
 go_ret;exact ⟨⟨k,rfl,by omega⟩,rfl⟩
end
end Go.Proofs.YteabgcollokgjaaGreatDoor

/- Q -/
import Derived.Test.YteabgcollokgjaaGreatDoorQB35
set_option linter.unusedSimpArgs false
set_option linter.unusedVariables false
set_option maxRecDepth 100000
set_option maxHeartbeats 32000000
open Go.Lib renaming hid → kh
open List renaming setIfInBounds_toArray → zA
namespace Go.Proofs.YteabgcollokgjaaGreatDoor
section
open Go.RowKit Go.MapKept Go.ChangeMaps Go.Shelf Go.Sort
def inOb (A:Option Addr) (L:List Int):Ob where
 own:=fun _=>False
 rd:=fun i=>0<L.length/\∃ o,A=some ⟨i,o,none⟩
 holds:=fun w=>RdT w w.heap.size A L/\L.length<=9223372036854775807
 stable:=fun w w' h hs hk=>by
  refine ⟨fun hp=>?_,h.2⟩;obtain ⟨b,o,e,hlt,hc⟩:=h.1 hp;have h2:=hk b (.inr ⟨hp,o,e⟩);refine ⟨b,o,e,Nat.lt_of_lt_of_le hlt hs.2.2.2,fun j hj=>?_⟩;rw [<- hc j hj];simp [World.cell?, h2]
section
variable {b:Nat} {w0 w w':World} {l:List Ob}
theorem SW.newTape {A:Option Addr} {L:List Int} (h:SW b w0 l w) (hm:inOb A L∈l) (c:Nat) {H:Nat} (hH:w.heap.size=H):SW b w0 (tpOb H A c L 0::l) (w.alloc (.cells #[.slice A L.length c,.int .i64 0] 50)):=by
 subst hH;have hh:RdT w w.heap.size A L/\L.length<=9223372036854775807:=h.1.holds _ hm;have hb:Below w.heap.size w (w.alloc (.cells #[.slice A L.length c,.int .i64 0] 50)):=(Below.refl _ _).alloc (Nat.le_refl _) _;have:=h.1.add (o':=tpOb w.heap.size A c L 0) hb ⟨IsB.new _ _ _,fun hp=>?_,hh.2⟩ (fun i hi=>?_) (fun i hi=>?_) (fun i hi hlt=>h.noOwn hm (fun _ h=>h) hi)
 · exact ⟨this.1,h.2.trans this.2⟩
 · obtain ⟨q,o,e,hlt,hc⟩:=hh.1 hp;exact ⟨q,o,e,by simp;omega,by omega,fun j hj=>(hb.cell hlt).trans (hc j hj)⟩
 · have hi:i=w.heap.size:=hi;rw [hi];exact ⟨Nat.le_refl _,by simp⟩
 obtain ⟨hp,o,e⟩:=hi;obtain ⟨q,o',e',hlt,_⟩:=hh.1 hp;rw [e] at e';injection e' with e';injection e' with e' _;rw [e'];exact Nat.lt_of_lt_of_le hlt (by simp)
theorem SW.stepR {r r':R3} (h:SW b w0 (r3Ob r::l) w) (hb:Below w.heap.size w w') (hok:R3Ok w' r') (hj:∀ j,(r3Ob r').rd j->w.heap.size<=j∨(r3Ob r).rd j):SW b w0 (r3Ob r'::l) w':=by
 have:=h.1.step (o':=r3Ob r') (Fr.new hb (fun i hi=>hi.elim)) (fun i hi=>by
  rcases hj i hi with h1 | h1
  · exact .inr (.inr h1)
  · exact .inr (.inl h1)) hok (fun i hi=>by
  rcases hi with hi | hi
  · exact hi.elim
  exact r3Ob_lt hok hi)
 exact ⟨this.1,h.2.trans this.2⟩
abbrev RPutS (b:Nat) (w0:World) (P:List (List UInt8)) (bs:List UInt8) (l:List Ob) (e:Ending) (w':World):Prop:=
 ∃ r':R3,e= .returned (.tuple #[.agg #[.slice r'.A r'.E.length r'.c,.slice r'.B r'.E.length r'.k],.agg #[.int .u64 (fpOf bs).1,.int .i64 (fpOf bs).2],.int .i64 0])/\SW b w0 (r3Ob r'::l) w'/\RTX r' (P++[bs])
theorem rPut_S {r:R3} (h:SW b w0 (r3Ob r::l) w) {P:List (List UInt8)} (hT:RTX r P) (d:BD) (bs:List UInt8) (hb:RB w d bs) (ht:IsText bs) (hlen:r.E.length<4096):
 Calls Tryz.prog 36 #[.agg #[.slice r.A r.E.length r.c,.slice r.B r.E.length r.k],.slice d.A d.len d.cap] w (RPutS b w0 P bs l):=by
 have hok:R3Ok w r:=h.get 0 (o:=r3Ob r) rfl;have h1:=ht.lo;have h2:=ht.hi;cases hat:hasAt r.E (fpOf bs) with
 | false=>
  refine (rPut_new hok d bs hb h1 (by omega) hat hlen).mono ?_;rintro e w' ⟨r',d2,rfl,hok',he,hbel,hj⟩;exact ⟨r',rfl,h.stepR hbel hok' hj,hT.put ht he hat⟩
 | true=>
  have hm:=(hasAt_iff hT.sort _).1 hat
  obtain ⟨f,hk,he,hid⟩:∃ f:RE,atI r.E (fpOf bs)<r.E.length/\r.E.getD (atI r.E (fpOf bs)) re0=f/\f.id=fpOf bs:=by
   have hat':=hat;unfold hasAt at hat';split at hat'
   · rename_i f hf
     exact ⟨f,(List.getElem?_eq_some_iff.1 hf).1,by rw [List.getD_eq_getElem?_getD,hf];rfl,of_decide_eq_true hat'⟩
   cases hat'
  have hmem:f∈r.E:=by
   rw [<- he,List.getD_eq_getElem?_getD,List.getElem?_eq_getElem hk];exact List.getElem_mem hk
  obtain ⟨hv1,hv2⟩:=hT.val f hmem;have hbs:f.bs=bs:=text_inj hv2 ht (hv1.trans hid);refine (rPut_there hok d bs hb h1 (by omega) hat he hk hbs).mono ?_;rintro e w' ⟨rfl,hbel⟩;exact ⟨r,rfl,h.on hbel,hT.more hat⟩
theorem rFlush_S {r:R3} (h:SW b w0 (r3Ob r::l) w):Calls Tryz.prog 43 #[.agg #[.slice r.A r.E.length r.c,.slice r.B r.E.length r.k]] w (fun e w'=>∃ r2:R3,e= .returned (.agg #[.slice r2.A r2.E.length r2.c,.slice r2.B r2.E.length r2.k])/\SW b w0 (r3Ob r2::l) w'/\∀ P,RTX r P->RTX r2 P):=by
 refine (rFlush_any (h.get 0 (o:=r3Ob r) rfl)).mono ?_;rintro e w' ⟨g,rfl,hg,hok,hb⟩;refine ⟨r.still g,by rw [still_len];rfl,h.stepR hb hok (fun j hj=>?_),fun P hP=>hP.still g⟩;rcases still_rd hj with rfl | h1
 · exact .inl hg
 exact .inr h1
abbrev z102:Array Value:= #[.pointer none,.pointer none,.pointer none,.pointer none,.slice none 0 0,.slice none 0 0,.slice none 0 0,.slice none 0 0]
abbrev pc0 (tg dp:Nat):Array Value:= #[vPtr tg,vPtr dp,.pointer none,.pointer none,.slice none 0 0,.slice none 0 0,.slice none 0 0,.slice none 0 0]
abbrev bgL (tg:Nat) (A:Option Addr) (c:Nat) (L:List Int) (n g9 g6 g2 dp:Nat) (r:R3) (l:List Ob):List Ob:=r3Ob r::cellOb g9 54 #[.slice r.A r.E.length r.c,.slice r.B r.E.length r.k]::tpOb tg A c L n::cellOb g6 102 (pc0 tg dp)::cellOb g2 102 z102::l
theorem Open_LS {ns:List ByteArray} {b:Nat} {w0 w:World} {l:List Ob} {p:Nat} {r:Rp} {s:St} (h:SW b w0 (devOb p r s::l) w) (nm:ByteArray) (hn:nameV nm=true) (hd:s.dn=false) (hf:s.f=0) (he:∀ m,s.now m=none) (ho:s.ops=[]) (h1:fileN nm∈ns) (h2:ns.length<=200):
 Calls Tryz.prog 20 #[vPtr p,.string nm] w (fun e w'=>∃ x:SR,e= .returned (.tuple #[vPtr x.ps,.int .i64 0])/\SW b w0 (x.obs l) w'/\Cl ns x/\x.C=[]/\x.F=none/\x.nm=nm/\x.p=p/\x.wait=0/\x.bytes=0/\x.s.ops=[]):=by
 refine (Open_empty h.1 nm hn hd he).mono ?_;rintro e w' ⟨H,hH,rfl,hs⟩;exact ⟨openedS p r s nm H,rfl,h.then hs,opened_cl hn hd hf he (by rw [ho];decide) h1 h2,rfl,rfl,rfl,rfl,rfl,rfl,ho⟩
abbrev PutTZ (ns:List ByteArray) (b:Nat) (w0:World) (x:SR) (P:List (List UInt8)) (bs:List UInt8) (l:List Ob) (e:Ending) (w':World):Prop:=
 e= .returned (.tuple #[.agg #[.int .u64 (fpOf bs).1,.int .i64 (fpOf bs).2],.int .i64 0])/\∃ x':SR,SW b w0 (x'.obs l) w'/\Cl ns x'/\TX x' (P++[bs])/\x'.ps=x.ps/\x'.p=x.p/\x'.nm=x.nm/\x'.F=x.F/\x'.s=x.s
theorem PutT_Z {ns:List ByteArray} {b:Nat} {w0 w:World} {x:SR} {l:List Ob} (h:SW b w0 (x.obs l) w) (hc:Cl ns x) {P:List (List UInt8)} (hT:TX x P) (A:Option Addr) (c:Nat) (bs:List UInt8) (hs:RS w A bs) (ht:IsText bs):
 Calls Tryz.prog 23 #[vPtr x.ps,.slice A bs.length c] w (PutTZ ns b w0 x P bs l):=by
 have h1:=ht.lo;have h2:=ht.hi;cases ha:asc x.C (fpOf bs) with
 | none=>
  have hf:=hT.few hc.keys;refine (PutN_L h hc A c bs hs (by omega) (by omega) ha (by omega)).mono ?_;rintro e w' ⟨rfl,d,s,hc'⟩;exact ⟨rfl,_,s,hc',hT.put ht ha d,rfl,rfl,rfl,rfl,rfl⟩
 | some pl=>
  have hm:fpOf bs∈P.map fpOf:=by
   have:=hT.has (fpOf bs);rw [ha] at this;exact of_decide_eq_true this.symm
  obtain ⟨t,ht',e⟩:=List.mem_map.1 hm;have e2:=text_inj (hT.text t ht') ht e;subst e2;refine (PutS_L h hc A c t hs (by omega) (by omega) (hT.val t ht')).mono ?_;rintro e w' ⟨rfl,s⟩;exact ⟨rfl,x,s,hc,hT.more ht',rfl,rfl,rfl,rfl,rfl⟩
structure PR where
 tg:Nat
 x:SR
 co:CR
 r:R3
 CA:Option Addr
 cc:Nat
 cd:List ID
abbrev PR.val (p:PR):Value:=.agg #[vPtr p.tg,vPtr p.x.p,vPtr p.x.ps,vPtr p.co.cp,.slice p.r.A p.r.E.length p.r.c,.slice p.r.B p.r.E.length p.r.k,.slice p.CA p.cd.length p.cc,.slice none 0 0]
abbrev bgE (L:List Int):BSt:=bgS L (bgK L)
structure BgOk (L:List Int) (p:PR):Prop where
 cl:Cl [fileN nmS] p.x
 tx:TX p.x (bgE L).P
 done:∀ c∈p.x.C,∃ o,c.2=Pl.at o
 ps:p.co.ps=p.x.ps
 se:p.co.se=List.replicate 16 ses0
 cand:∃ ys:List ID,p.co.cand=lessL (setI (bgE L).live) ys/\ys.Perm (p.x.C.map (·.1))/\SortedI ys
 rtx:RTX p.r (bgE L).P
 cd:p.cd=lessR p.r.ids (bgE L).live
 len:flen p.x.F<=352
 few:p.x.C.length<=11
 lay:LayS p.x
 ops:p.x.s.ops=[]
abbrev BeginP (L:List Int) (A:Option Addr) (c:Nat) (b:Nat) (w0:World) (l:List Ob) (e:Ending) (w':World):Prop:=
 ∃ (p:PR) (LA:Option Addr) (lc:Nat),e= .returned (.tuple #[p.val,.slice LA (bgE L).live.length lc,.bool true])/\SW b w0 (coOb p.co::p.x.obs (tpOb p.tg A c L (bgE L).n::riOb LA (bgE L).live::r3Ob p.r::riOb p.CA p.cd::l)) w'/\BgOk L p
abbrev r30:R3:=⟨none,0,none,0,[]⟩
theorem SW.newR3 (h:SW b w0 l w):SW b w0 (r3Ob r30::l) w:=SW.fuse (pre:=[]) h ⟨RowV.nil,RowV.nil,Nat.le_refl _,Nat.le_refl _,by simp,fun e he=>by cases he⟩ (fun _ h=>h) (fun i hi=>by
 rcases hi with ⟨h,_⟩ | ⟨e,he,_⟩
 · simp at h
 cases he)
theorem RTX.empty:RTX r30 []:=⟨List.Pairwise.nil,fun i=>by simp [R3.ids],fun e he=>by cases he⟩
theorem begin_any (h:SW b w0 l w) {A:Option Addr} {L:List Int} (hin:inOb A L∈l) (c:Nat):Calls Tryz.prog 60 #[.slice A L.length c] w (BeginP L A c b w0 l):=by
 have S1:=kh ((h.newCell 102 z102).newTape (List.mem_cons_of_mem _ hin) c (H:=w.heap.size+1) (by simp));clear h;go_enter Tryz.func60,Tryz.ntmps60;go_upto_region 2 with fail
 obtain ⟨W1,HW1⟩:∃ W1,Hid ((w.alloc (.cells z102 102)).alloc (.cells #[.slice A L.length c,.int .i64 0] 50)=W1):=⟨_,rfl⟩;rw [HW1.out] at S1 |-; obtain ⟨tg,HTG⟩:∃ tg,Hid (w.heap.size+1=tg):=⟨_,rfl⟩;obtain ⟨g2,HG2⟩:∃ g2,Hid (w.heap.size=g2):=⟨_,rfl⟩;rw [HTG.out,HG2.out] at S1;rw [HTG.out,HG2.out];have HNW:=kh (New_S S1.out);clear HW1 HTG HG2;go_wp2_with (go_at_call 21;(with_reducible refine HNW.out.mono ?_);refine halt_ ?_)
 rintro e w2 ⟨rp,rfl,s2⟩;obtain ⟨dp,HDP⟩:∃ dp,Hid (W1.heap.size+2=dp):=⟨_,rfl⟩;rw [HDP.out] at s2;rw [HDP.out];have S2:=kh s2;clear s2 HNW HDP S1;go_upto_region 3 with fail
 have S3:=kh (SW.front (pre:=[_,_]) (S2.out.newCell 102 (pc0 tg dp)) [1,0] (n:=2) rfl (by decide));have HO:=kh (Open_LS (ns:=[fileN nmS]) S3.out nmS nmS_ok rfl rfl (fun _=>rfl) rfl (by simp) (by simp));have c1:=(S3.out.cell 1 rfl).cell 1;have hlt1:=(S3.out.cell 1 rfl).lt;obtain ⟨W3,HW3⟩:∃ W3,Hid (w2.alloc (.cells (pc0 tg dp) 102)=W3):=⟨_,rfl⟩;obtain ⟨g6,HG6⟩:∃ g6,Hid (w2.heap.size=g6):=⟨_,rfl⟩;rw [HW3.out,HG6.out] at S3 c1 hlt1;rw [HW3.out,HG6.out] at HO;rw [HW3.out,HG6.out];clear S2 HW3 HG6;go_wp2_with (go_at_call 20;(with_reducible refine HO.out.mono ?_);refine halt_ ?_)
 rintro e w4 ⟨x0,rfl,hs,hc,hC,hF,hnm,hp,hw,hby,hoo⟩;have HOO:=kh hoo;have C4:=kh hc;have HC:=kh hC;have HF:=kh hF;have S4:Hid (SW b w0 (x0.obs (cellOb w4.heap.size 54 #[.slice none 0 0,.slice none 0 0]::tpOb tg A c L 0::cellOb g6 102 (pc0 tg dp)::cellOb g2 102 z102::l)) _):=kh (SW.front (pre:=[_,_,_,_,_,_,_]) (t:=cellOb g2 102 z102::l) (hs.newCell 54 #[.slice none 0 0,.slice none 0 0]).behind [0,1,2,3,4,6,5] (n:=7) rfl (by decide));obtain ⟨ps,HPS⟩:∃ ps,Hid (x0.ps=ps):=⟨_,rfl⟩;obtain ⟨g9,HG9⟩:∃ g9,Hid (w4.heap.size=g9):=⟨_,rfl⟩;have HP:=kh hp;rw [HPS.out];clear hs hc hC hF hnm hp hw hby hoo HO S3 c1 hlt1;go_upto_region 8 with fail
 obtain ⟨W5,HW5⟩:∃ W5,Hid (w4.alloc (.cells #[.slice none 0 0,.slice none 0 0] 54)=W5):=⟨_,rfl⟩;rw [HW5.out] at S4 |-; rw [HG9.out] at S4 |-; clear HW5 HG9;have HN:=kh (Next_x S4.out 5 rfl 12 (by omega) (by omega));simp only [List.set_cons_succ,List.set_cons_zero] at HN;obtain ⟨K,HK⟩:∃ K,Hid (bgK L=K):=⟨_,rfl⟩;have hK:=bgK_le L;rw [HK.out] at hK;obtain ⟨hK1,hK⟩:=hK;rw [<- hK1] at HN;clear hK1;go_wp2_with (go_at_call 33;(with_reducible refine HN.out.mono ?_);refine halt_ ?_)
 rintro e w5 ⟨rfl,s5⟩;have S5:Hid (SW b w0 (x0.obs (r3Ob r30::cellOb g9 54 #[.slice none 0 0,.slice none 0 0]::tpOb tg A c L (bgS L 0).n::cellOb g6 102 (pc0 tg dp)::cellOb g2 102 z102::l)) w5):=s5.newR3.behind;clear s5 HN S4;go_wp2_with fail
 go_loopw [10,11] (fun s10 s11 wr=>∃ (j m:Nat) (x:SR) (r:R3) (LA:Option Addr) (lc:Nat),j+m=K/\s11= .int .i64 (m:Int)/\s10= .slice LA (bgS L j).live.length lc/\x.ps=ps/\x.p=dp/\(x.F=none/\x.s.ops=[])/\Cl [fileN nmS] x/\TX x (bgS L j).P/\RTX r (bgS L j).P/\SW b w0 (rowOb 31 2 (.slice LA (bgS L j).live.length lc) (bgS L j).live.length ((bgS L j).live.flatMap encID)::x.obs (bgL tg A c L (bgS L j).n g9 g6 g2 dp r l)) wr) (fun _ s11 _=>(intOf s11).toNat)
 case atStart=>exact ⟨0,K,x0,r30,none,0,Nat.zero_add _,rfl,rfl,HPS.out,HP.out,⟨HF.out,HOO.out⟩,C4.out,TX.empty HC.out,RTX.empty,S5.out.newRow 31 2⟩
 obtain ⟨j,m,x,r,LA,lc,hjm,rfl,rfl,hps,hp,hF,hc,hT,hR,hs⟩:=hrel;have C1:=kh hc;have T1:=kh hT;have R1:=kh hR;have F1:=kh hF.1;have O1:=kh hF.2;have HP1:=kh hp;have HPS1:=kh hps;have S1:=kh hs;clear hs hc hT hR hF hp hps S5 C4 HC HF HP HPS HOO;have hrl:=R1.out.len;rw [bgS_len] at hrl;have hSn:=bgS_n L j;have hLl:=bgS_live L j;obtain ⟨t,HB⟩:∃ t,Hid (bgS L j=t):=⟨_,rfl⟩;have HB1:Hid (bgS L (j+1)=bgStep L t):=by rw [Hid, <- HB.out];rfl
 rw [HB.out] at S1 T1 R1 hSn hLl |-; have hLl:=hLl.1;cases m with
 | zero=>
  obtain rfl:j=K:=by omega
  have hpl:(pends x.C).length<=11:=by
   have h1:=T1.out.len C1.out.keys;have h2:=pends_le x.C;rw [<- HB.out,bgS_len] at h1;omega
  have hfs:frSum (pends x.C)<=352:=by
   have:=T1.out.pends;omega
  have HFL:=kh (Flush_L S1.out.behind C1.out (by omega) (by rw [F1.out];simp only [flen];omega));rw [HPS1.out] at HFL;go_wp2_with (go_at_call 35;(with_reducible refine HFL.out.mono ?_);refine halt_ ?_)
  rintro e w6 ⟨rfl,x2,s6,hc2,hfl⟩;have C2:=kh hc2;have FL:=kh hfl;have HPS2:Hid (x2.ps=ps):=hfl.ps.trans HPS1.out;have HP2:Hid (x2.p=dp):=hfl.p.trans HP1.out
  have HLEN:Hid (flen x2.F<=352):=by
   rw [Hid,hfl.len,F1.out];simp only [flen];omega
  have HT2:Hid (TX x2 t.P):=⟨fun i=>(hfl.has i).trans (T1.out.has i),fun bs hb=>(hfl.val _).trans (T1.out.val bs hb),T1.out.text⟩
  have hx2:x2.C.length<=11:=by
   have h1:=HT2.out.len hc2.keys;rw [<- HB.out,bgS_len] at h1;omega
  have HX11:=kh hx2;have hx2:x2.C.length<=49:=by omega
  have HLI:Hid (∀ i∈t.live,okID i):=fun i hi=>by
   have h1:=(bgS_live L j).2 i (by rw [HB.out];exact hi);rw [HB.out] at h1;obtain ⟨bs,hb,e⟩:=List.mem_map.1 h1;rw [<- e];exact (T1.out.text bs hb).ok
  have S6:Hid (SW b w0 (x2.obs (riOb LA t.live::bgL tg A c L t.n g9 g6 g2 dp r l)) w6.drew):=(SW.front (pre:=[_,_,_,_,_]) s6 [4,0,1,2,3] (n:=5) rfl (by decide)).rowRi.behind.drew;have HNC:=kh (New_c S6.out C2.out LA lc t.live (by simp) HLI.out (by omega) hx2);rw [HPS2.out] at HNC;clear s6 hc2 hfl HFL S1;go_upto_region 20 with fail
  refine wp_region_held_tail [(0,true),(1,true),(2,true),(4,true),(6,true),(8,true),(3,false),(5,false),(7,false)] (fun w'=>w'.cell? ⟨g9,0,none⟩=some (.slice r.A r.E.length r.c)/\w'.cell? ⟨g9,1,none⟩=some (.slice r.B r.E.length r.k)) (by kernel_rfl) (fun _ _ d _ _ h=>by cases d<;>exact h) (by kernel_rfl) (⟨(S6.out.cell 6 rfl).cell 0,(S6.out.cell 6 rfl).cell 1⟩) ?_;simp only [pk_]
  iterate 6
   (refine wpHeld_take (v:=?_) (Or.inl ⟨by rfl,?_⟩) ?_
    rotate_left
    · (intro w' hSw;obtain ⟨h1,h2⟩:=hSw;go_simp;try with_reducible rfl)
    try simp only [Act.put,zA,List.set])
  refine wpHeld_run (fun K hK=>?_);go_simp;go_at_call 109
  refine HNC.out.mono ?_;rintro e w7 ⟨co,ys,rfl,s7,hps7,hse7,hp7,hso7,hcd7⟩;have HO7:Hid (co.ps=x2.ps/\co.se=List.replicate 16 ses0/\ys.Perm (x2.C.map (·.1))/\SortedI ys/\co.cand=lessL (setI t.live) ys):=⟨hps7,hse7,hp7,hso7,hcd7⟩;have S7:Hid (SW b w0 (r3Ob r::coOb co::x2.obs (riOb LA t.live::cellOb g9 54 #[.slice r.A r.E.length r.c,.slice r.B r.E.length r.k]::tpOb tg A c L t.n::cellOb g6 102 (pc0 tg dp)::cellOb g2 102 z102::l)) w7):=SW.front (pre:=[_,_,_,_,_,_,_]) s7 [6,0,1,2,3,4,5] (n:=7) rfl (by decide);clear s7 hps7 hse7 hp7 hso7 hcd7 S6;go_wp2_with fail
  refine hK.out _ _ ⟨(S7.out.cell 7 rfl).cell 0,(S7.out.cell 7 rfl).cell 1⟩ ?_;clear hK K;try simp only [Act.put,zA,List.set]
  refine wpHeld_run (fun K hK=>?_);go_simp;go_at_call 43
  refine (rFlush_S S7.out).mono ?_;rintro e w8 ⟨r2,rfl,s8,hr2⟩;have S8:=kh s8;have R2:=kh (hr2 _ R1.out);clear s8 hr2 S7 R1;go_wp2_with fail
  refine hK.out _ _ ⟨(S8.out.cell 7 rfl).cell 0,(S8.out.cell 7 rfl).cell 1⟩ ?_;clear hK K;try simp only [Act.put,zA,List.set]
  refine wpHeld_run (fun K hK=>?_);go_simp;go_at_call 110
  refine (rNew_any S8.out (r:=r2) (A:=LA) (live:=t.live) (by simp) (by simp) (by omega) lc).mono ?_;rintro e w9 ⟨CA,cc,rfl,s9⟩;have S9:=kh s9;clear s9 S8;go_wp2_with fail
  refine hK.out _ _ ⟨(S9.out.cell 8 rfl).cell 0,(S9.out.cell 8 rfl).cell 1⟩ ?_;clear hK K;try simp only [Act.put,zA,List.set]
  refine wpHeld_nil ?_;simp only [dz_];have S10:Hid (SW b w0 (cellOb g6 102 (pc0 tg dp)::cellOb g2 102 z102::riOb CA (lessR r2.ids t.live)::r3Ob r2::coOb co::x2.obs (riOb LA t.live::cellOb g9 54 #[.slice r.A r.E.length r.c,.slice r.B r.E.length r.k]::tpOb tg A c L t.n::l)) w9):=SW.front (pre:=[_,_,_,_,_,_,_,_,_,_,_,_]) (t:=l) S9.out [10,11,0,1,2,3,4,5,6,7,8,9] (n:=12) rfl (by decide);have z2:=(S10.out.cell 0 rfl).cell 2;have f2:=(S10.out.cell 0 rfl).frozen 2;have z3:=(S10.out.cell 0 rfl).cell 3;have f3:=(S10.out.cell 0 rfl).frozen 3;have z4:=(S10.out.cell 0 rfl).cell 4;have f4:=(S10.out.cell 0 rfl).frozen 4;have z5:=(S10.out.cell 0 rfl).cell 5;have f5:=(S10.out.cell 0 rfl).frozen 5;have z6:=(S10.out.cell 0 rfl).cell 6;have f6:=(S10.out.cell 0 rfl).frozen 6;have z7:=(S10.out.cell 0 rfl).cell 7;have f7:=(S10.out.cell 0 rfl).frozen 7;go_upto_region 21 with fail
  have S11:Hid (SW b w0 (cellOb g6 102 #[vPtr tg,vPtr dp,vPtr ps,vPtr co.cp,Value.slice r2.A r2.E.length r2.c,Value.slice r2.B r2.E.length r2.k,Value.slice CA (lessR r2.ids t.live).length cc,Value.slice none 0 0]::cellOb g2 102 z102::riOb CA (lessR r2.ids t.live)::r3Ob r2::coOb co::x2.obs (riOb LA t.live::cellOb g9 54 #[.slice r.A r.E.length r.c,.slice r.B r.E.length r.k]::tpOb tg A c L t.n::l)) _):=kh ((((((S10.out.setAt 0 rfl 2 (vPtr ps)).setAt 0 rfl 3 (vPtr co.cp)).setAt 0 rfl 4 (Value.slice r2.A r2.E.length r2.c)).setAt 0 rfl 5 (Value.slice r2.B r2.E.length r2.k)).setAt 0 rfl 6 (Value.slice CA (lessR r2.ids t.live).length cc)).setAt 0 rfl 7 (Value.slice none 0 0));clear z2 z3 z4 z5 z6 z7 f2 f3 f4 f5 f6 f7 S9 S10;generalize ((((((w9.setCell _ _).setCell _ _).setCell _ _).setCell _ _).setCell _ _).setCell _ _)=W at S11 |-
  have HC:=kh (fun (w':World) (cs:Array Value) (h:SW b w0 (cellOb g6 102 #[vPtr tg,vPtr dp,vPtr ps,vPtr co.cp,Value.slice r2.A r2.E.length r2.c,Value.slice r2.B r2.E.length r2.k,Value.slice CA (lessR r2.ids t.live).length cc,Value.slice none 0 0]::cellOb g2 102 cs::riOb CA (lessR r2.ids t.live)::r3Ob r2::coOb co::x2.obs (riOb LA t.live::cellOb g9 54 #[.slice r.A r.E.length r.c,.slice r.B r.E.length r.k]::tpOb tg A c L t.n::l)) w')=>(show w'.cell? ⟨g6,0,none⟩=some (vPtr tg)/\w'.cell? ⟨g6,1,none⟩=some (vPtr dp)/\w'.cell? ⟨g6,2,none⟩=some (vPtr ps)/\w'.cell? ⟨g6,3,none⟩=some (vPtr co.cp)/\w'.cell? ⟨g6,4,none⟩=some (Value.slice r2.A r2.E.length r2.c)/\w'.cell? ⟨g6,5,none⟩=some (Value.slice r2.B r2.E.length r2.k)/\w'.cell? ⟨g6,6,none⟩=some (Value.slice CA (lessR r2.ids t.live).length cc)/\w'.cell? ⟨g6,7,none⟩=some (Value.slice none 0 0) from ⟨(h.cell 0 rfl).cell 0,(h.cell 0 rfl).cell 1,(h.cell 0 rfl).cell 2,(h.cell 0 rfl).cell 3,(h.cell 0 rfl).cell 4,(h.cell 0 rfl).cell 5,(h.cell 0 rfl).cell 6,(h.cell 0 rfl).cell 7⟩))
  have S12:Hid (SW b w0 (cellOb g2 102 z102::cellOb g6 102 #[vPtr tg,vPtr dp,vPtr ps,vPtr co.cp,Value.slice r2.A r2.E.length r2.c,Value.slice r2.B r2.E.length r2.k,Value.slice CA (lessR r2.ids t.live).length cc,Value.slice none 0 0]::riOb CA (lessR r2.ids t.live)::r3Ob r2::coOb co::x2.obs (riOb LA t.live::cellOb g9 54 #[.slice r.A r.E.length r.c,.slice r.B r.E.length r.k]::tpOb tg A c L t.n::l)) W.drew):=SW.front (pre:=[_,_]) S11.out.drew [1,0] (n:=2) rfl (by decide);refine wp_region_held_tail [(0,true),(1,true),(2,true),(3,true),(4,true),(5,false),(6,true)] (fun w'=>w'.cell? ⟨g6,0,none⟩=some (vPtr tg)/\w'.cell? ⟨g6,1,none⟩=some (vPtr dp)/\w'.cell? ⟨g6,2,none⟩=some (vPtr ps)/\w'.cell? ⟨g6,3,none⟩=some (vPtr co.cp)/\w'.cell? ⟨g6,4,none⟩=some (Value.slice r2.A r2.E.length r2.c)/\w'.cell? ⟨g6,5,none⟩=some (Value.slice r2.B r2.E.length r2.k)/\w'.cell? ⟨g6,6,none⟩=some (Value.slice CA (lessR r2.ids t.live).length cc)/\w'.cell? ⟨g6,7,none⟩=some (Value.slice none 0 0)) (by kernel_rfl) (fun _ _ d _ _ h=>by cases d<;>exact h) (by kernel_rfl) (HC.out _ _ S11.out.drew) ?_;generalize W.drew=Wd at S12 |-; have b0:=(S12.out.cell 0 rfl).cell 0;have f0:=(S12.out.cell 0 rfl).frozen 0;have b1:=(S12.out.cell 0 rfl).cell 1;have f1:=(S12.out.cell 0 rfl).frozen 1;have b2:=(S12.out.cell 0 rfl).cell 2;have f2:=(S12.out.cell 0 rfl).frozen 2;have b3:=(S12.out.cell 0 rfl).cell 3
  have f3:=(S12.out.cell 0 rfl).frozen 3;have b4:=(S12.out.cell 0 rfl).cell 4;have f4:=(S12.out.cell 0 rfl).frozen 4;have b5:=(S12.out.cell 0 rfl).cell 5;have f5:=(S12.out.cell 0 rfl).frozen 5;have b6:=(S12.out.cell 0 rfl).cell 6;have f6:=(S12.out.cell 0 rfl).frozen 6;have b7:=(S12.out.cell 0 rfl).cell 7;have f7:=(S12.out.cell 0 rfl).frozen 7;simp only [pk_]
  iterate 5
   (refine wpHeld_take (v:=?_) (Or.inl ⟨by rfl,?_⟩) ?_
    rotate_left
    · (intro w' hSw;obtain ⟨h0,h1,h2,h3,h4,h5,h6,h7⟩:=hSw;go_simp;try with_reducible rfl)
    try simp only [Act.put,zA,List.set])
  refine wpHeld_run (fun K hK=>?_);have S13:Hid (SW b w0 (cellOb g2 102 #[vPtr tg,vPtr dp,vPtr ps,vPtr co.cp,Value.slice r2.A r2.E.length r2.c,Value.slice r2.B r2.E.length r2.k,Value.slice CA (lessR r2.ids t.live).length cc,Value.slice none 0 0]::cellOb g6 102 #[vPtr tg,vPtr dp,vPtr ps,vPtr co.cp,Value.slice r2.A r2.E.length r2.c,Value.slice r2.B r2.E.length r2.k,Value.slice CA (lessR r2.ids t.live).length cc,Value.slice none 0 0]::riOb CA (lessR r2.ids t.live)::r3Ob r2::coOb co::x2.obs (riOb LA t.live::cellOb g9 54 #[.slice r.A r.E.length r.c,.slice r.B r.E.length r.k]::tpOb tg A c L t.n::l)) _):=kh ((((((((S12.out.setAt 0 rfl 0 (vPtr tg)).setAt 0 rfl 1 (vPtr dp)).setAt 0 rfl 2 (vPtr ps)).setAt 0 rfl 3 (vPtr co.cp)).setAt 0 rfl 4 (Value.slice r2.A r2.E.length r2.c)).setAt 0 rfl 5 (Value.slice r2.B r2.E.length r2.k)).setAt 0 rfl 6 (Value.slice CA (lessR r2.ids t.live).length cc)).setAt 0 rfl 7 (Value.slice none 0 0));go_simp;refine hK.out _ _ (HC.out _ _ (SW.front (pre:=[_,_]) S13.out [1,0] (n:=2) rfl (by decide))) ?_;clear hK K b0 b1 b2 b3 b4 b5 b6 b7 f0 f1 f2 f3 f4 f5 f6 f7 S12 S11;try simp only [Act.put,zA,List.set]
  (refine wpHeld_take (v:=?_) (Or.inl ⟨by rfl,?_⟩) ?_
   rotate_left
   · (intro w' hSw;obtain ⟨h0,h1,h2,h3,h4,h5,h6,h7⟩:=hSw;go_simp;try with_reducible rfl)
   try simp only [Act.put,zA,List.set])
  refine wpHeld_nil ?_;simp only [dz_];generalize ((((((((Wd.setCell _ _).setCell _ _).setCell _ _).setCell _ _).setCell _ _).setCell _ _).setCell _ _).setCell _ _)=W2 at S13 |-; have e0:W2.cell? ⟨g2,0,none⟩=some (vPtr tg):=(S13.out.cell 0 rfl).cell 0;have e1:W2.cell? ⟨g2,1,none⟩=some (vPtr dp):=(S13.out.cell 0 rfl).cell 1;have e2:W2.cell? ⟨g2,2,none⟩=some (vPtr ps):=(S13.out.cell 0 rfl).cell 2;have e3:W2.cell? ⟨g2,3,none⟩=some (vPtr co.cp):=(S13.out.cell 0 rfl).cell 3;have e4:W2.cell? ⟨g2,4,none⟩=some (Value.slice r2.A r2.E.length r2.c):=(S13.out.cell 0 rfl).cell 4;have e5:W2.cell? ⟨g2,5,none⟩=some (Value.slice r2.B r2.E.length r2.k):=(S13.out.cell 0 rfl).cell 5;have e6:W2.cell? ⟨g2,6,none⟩=some (Value.slice CA (lessR r2.ids t.live).length cc):=(S13.out.cell 0 rfl).cell 6;have e7:W2.cell? ⟨g2,7,none⟩=some (Value.slice none 0 0):=(S13.out.cell 0 rfl).cell 7;go_wp2_with fail
  refine bodyPost_ret (v:=.tuple #[.agg #[vPtr tg,vPtr dp,vPtr ps,vPtr co.cp,Value.slice r2.A r2.E.length r2.c,Value.slice r2.B r2.E.length r2.k,Value.slice CA (lessR r2.ids t.live).length cc,Value.slice none 0 0],.slice LA t.live.length lc,.bool true]) ?_ rfl ?_
  · simp [results,Tryz.results60,go_sem,e0,e1,e2,e3,e4,e5,e6,e7]
  have hE:bgE L=t:=by
   show bgS L (bgK L)=t;rw [HK.out,HB.out]
  refine ⟨⟨tg,x2,co,r2,CA,cc,lessR r2.ids t.live⟩,LA,lc,?_,?_,?_⟩
  · show _=Ending.returned (.tuple #[.agg #[vPtr tg,vPtr x2.p,vPtr x2.ps,vPtr co.cp,.slice r2.A r2.E.length r2.c,.slice r2.B r2.E.length r2.k,.slice CA (lessR r2.ids t.live).length cc,.slice none 0 0],.slice LA (bgE L).live.length lc,.bool true]);rw [hE,HP2.out,HPS2.out]
  · rw [hE];exact SW.few (pre:=[_,_,_,_,_,_,_,_,_,_,_,_]) S13.out [4,5,6,7,8,11,9,3,2] (n:=12) rfl (by decide) (by decide)
  obtain ⟨o1,o2,o3,o4,o5⟩:=HO7.out;exact ⟨C2.out,by rw [hE];exact HT2.out,FL.out.done,o1,o2,⟨ys,by rw [hE];exact o5,o3,o4⟩,by rw [hE];exact R2.out,by rw [hE],HLEN.out,HX11.out,FL.out.lay (fun f hf=>by rw [F1.out] at hf;cases hf),FL.out.ops O1.out⟩
 | succ m=>
  have HT:=kh (text74_x S1.out 7 rfl (by omega));go_wp2_with (go_at_call 74;(with_reducible refine HT.out.mono ?_);refine halt_ ?_)
  rintro e w1 ⟨d,rfl,s2⟩;have HX:=kh (textB_is L t.n);have HTN:=(textN_in L t.n).2;obtain ⟨bs,HBS⟩:∃ bs,Hid (textB L t.n=bs):=⟨_,rfl⟩;rw [HBS.out] at s2 HX;have S2:=kh (SW.front (pre:=[_,_,_,_,_,_]) s2 [2,3,4,5,0,1] (n:=6) rfl (by decide));have hrb:RB w1 d bs:=S2.out.get 4 (o:=bufOb d bs) rfl;have hdl:d.len=bs.length:=hrb.1.symm;have HPU:=kh (PutT_Z S2.out C1.out T1.out d.A d.cap bs hrb.rs HX.out);rw [HPS1.out] at HPU;rw [hdl];have HDL:=kh hdl;clear s2 hrb hdl HT S1;go_wp2_with (go_at_call 23;(with_reducible refine HPU.out.mono ?_);refine halt_ ?_)
  rintro e w2 ⟨rfl,x',s3,hc',hT',hps',hp',hnm',hF',hss'⟩;have O2:Hid (x'.s.ops=[]):=by rw [Hid,hss'];exact O1.out
  obtain ⟨i,HI⟩:∃ i,Hid (fpOf bs=i):=⟨_,rfl⟩;rw [HI.out];have C2:=kh hc';have T2:=kh hT';have F2:Hid (x'.F=none):=hF'.trans F1.out;have HP2:Hid (x'.p=dp):=hp'.trans HP1.out;have HPS2:Hid (x'.ps=ps):=hps'.trans HPS1.out;have S3:=kh (SW.front (pre:=[_,_,_,_,_,_,_,_]) (s3.newCell 31 #[.int .u64 i.1,.int .i64 i.2]) [7,0,1,2,3,4,5,6] (n:=8) rfl (by decide));obtain ⟨g13,HG13⟩:∃ g13,Hid (w2.heap.size=g13):=⟨_,rfl⟩;rw [HG13.out] at S3;clear s3 hc' hT' hps' hp' hnm' hF' hss' HPU S2 C1 T1 F1 O1 HP1 HPS1;go_upto_region 15 with fail
  obtain ⟨W3,HW3⟩:∃ W3,Hid (w2.alloc (.cells #[.int .u64 i.1,.int .i64 i.2] 31)=W3):=⟨_,rfl⟩;rw [HW3.out] at S3;rw [HW3.out,HG13.out];clear HW3 HG13;have k0:=(S3.out.cell 8 rfl).cell 0;have k1:=(S3.out.cell 8 rfl).cell 1;have HPR:=kh (rPut_S S3.out R1.out d bs (S3.out.get 6 (o:=bufOb d bs) rfl) HX.out (by omega));rw [HDL.out] at HPR;go_wp2_with (go_at_call 36;(with_reducible refine HPR.out.mono ?_);refine halt_ ?_)
  rintro e w4 ⟨r',rfl,s4,hR'⟩;have R2:=kh hR';have z0:=(s4.cell 8 rfl).cell 0;have z1:=(s4.cell 8 rfl).cell 1;have f0:=(s4.cell 8 rfl).frozen 0;have f1:=(s4.cell 8 rfl).frozen 1;have S4:=kh ((s4.setAt 8 rfl 0 (.slice r'.A r'.E.length r'.c)).setAt 8 rfl 1 (.slice r'.B r'.E.length r'.k));clear s4 hR' HPR S3 k0 k1 R1;go_upto_region 16 with fail
  obtain ⟨W4,HW4⟩:∃ W4,Hid ((w4.setCell ⟨g9,0,none⟩ (.slice r'.A r'.E.length r'.c)).setCell ⟨g9,1,none⟩ (.slice r'.B r'.E.length r'.k)=W4):=⟨_,rfl⟩;rw [HW4.out] at S4;rw [HW4.out];clear HW4 z0 z1 f0 f1;have HNX:=kh (Next_x S4.out 9 rfl 3 (by omega) (by omega));go_wp2_with (go_at_call 33;(with_reducible refine HNX.out.mono ?_);refine halt_ ?_)
  rintro e w6 ⟨rfl,s6⟩;have S6:Hid (SW b w0 (r3Ob r'::cellOb g13 31 #[.int .u64 i.1,.int .i64 i.2]::x'.obs (bufOb d bs::rowOb 31 2 (.slice LA t.live.length lc) t.live.length (t.live.flatMap encID)::cellOb g9 54 #[.slice r'.A r'.E.length r'.c,.slice r'.B r'.E.length r'.k]::tpOb tg A c L (t.n+1+textN L t.n+1)::cellOb g6 102 (pc0 tg dp)::cellOb g2 102 z102::l)) w6):=s6;clear s6 HNX S4;obtain ⟨v,HV⟩:∃ v,Hid (tnext L (t.n+1+textN L t.n) 3=v):=⟨_,rfl⟩;rw [HV.out];by_cases hv:v=0
  · subst hv;have HBN:Hid (bgStep L t=⟨t.n+1+textN L t.n+1,t.P++[bs],t.live++[i]⟩):=by rw [Hid,bgStep,HV.out,if_pos rfl,HBS.out,HI.out]
    rw [HBN.out] at HB1;have c0:=(S6.out.cell 1 rfl).cell 0;have c1:=(S6.out.cell 1 rfl).cell 1;obtain ⟨i1,gi,gz0,gz1,gz2⟩:=info_parts info31;go_wp2_with (at_builtin;(refine wpList_rowS (t:=38) (e:=31) (size:=2) (bytes:=16) (i:=i1) (S6.out.alloc _) 7 rfl (by rfl) (.tmp 61) (.tmp 63) (by rfl) Tryz.underlying38 gi gz0 gz1 gz2 rfl (by omega) (by rfl) ⟨w6.heap.size,0,none⟩ 1 [.int .u64 i.1,.int .i64 i.2] (by rfl) rfl (two_new w6 _ _ 31 _ rfl) (encID_one i) (by unfold maxLen;omega) (by omega) ?_);refine halt_ ?_)
    intro v4 w7 s7;obtain ⟨g4,c4,rfl⟩:=own_some (s7.get 7 rfl) (by omega)
    have S7:Hid (SW b w0 (rowOb 31 2 (.slice (some ⟨g4,0,none⟩) (t.live++[i]).length c4) (t.live++[i]).length ((t.live++[i]).flatMap encID)::x'.obs (bgL tg A c L (t.n+1+textN L t.n+1) g9 g6 g2 dp r' l)) w7):=by
     rw [Hid,List.flatMap_append,List.length_append];exact SW.few (pre:=[_,_,_,_,_,_,_,_]) s7 [7,2,3,4,5,0] (n:=8) rfl (by decide) (by decide)
    clear s7 S6 c0 c1;go_wp2_with fail
    go_roundw
    case rel=>
     refine ⟨j+1,m,x',r',some ⟨g4,0,none⟩,c4,by omega,by go_num,?_,HPS2.out,HP2.out,⟨F2.out,O2.out⟩,C2.out,?_,?_,?_⟩
     · rw [HB1.out,List.length_append];rfl
     · rw [HB1.out];exact T2.out
     · rw [HB1.out];exact R2.out
     rw [HB1.out];exact S7.out
    simp [intOf]
  have HBN:Hid (bgStep L t=⟨t.n+1+textN L t.n+1,t.P++[bs],t.live⟩):=by rw [Hid,bgStep,HV.out,if_neg hv,HBS.out,List.append_nil]
  rw [HBN.out] at HB1;have S7:Hid (SW b w0 (rowOb 31 2 (.slice LA t.live.length lc) t.live.length (t.live.flatMap encID)::x'.obs (bgL tg A c L (t.n+1+textN L t.n+1) g9 g6 g2 dp r' l)) w6):=SW.few (pre:=[_,_,_,_,_,_,_,_]) S6.out [7,2,3,4,5,0] (n:=8) rfl (by decide) (by decide);have hd:decide (v=0)=false:=decide_eq_false hv;clear S6;go_wp2_with fail
  go_roundw
  case rel=>
   refine ⟨j+1,m,x',r',LA,lc,by omega,by go_num,?_,HPS2.out,HP2.out,⟨F2.out,O2.out⟩,C2.out,?_,?_,?_⟩
   · rw [HB1.out]
   · rw [HB1.out];exact T2.out
   · rw [HB1.out];exact R2.out
   rw [HB1.out];exact S7.out
  simp [intOf]
end
theorem SW.startIn {w:World} {A:Option Addr} {L:List Int} (hr:RdT w w.heap.size A L) (hl:L.length<=9223372036854775807):SW w.heap.size w [inOb A L] w:=
 SW.start (o:=inOb A L) ⟨hr,hl⟩ (fun _ h=>h) (fun i hi=>by
  obtain ⟨hp,o,e⟩:=hi;obtain ⟨q,o',e',hlt,_⟩:=hr hp;rw [e] at e';injection e' with e';injection e' with e' _;rw [e'];exact hlt)
section
variable {ns:List ByteArray} {b:Nat} {w0 w w':World} {l:List Ob} {x:SR} {c:CR}
theorem TX.gone {P:List (List UInt8)} (h:TX x P) {ids:List ID} {x':SR} (hg:Gone x ids x'):TX x' (P.filter fun t=> !decide (fpOf t∈ids)):=by
 refine ⟨fun i=>?_,fun t ht=>?_,fun t ht=>h.text t (List.mem_filter.1 ht).1⟩
 · rw [hg.has i,h.has i];by_cases hi:i∈ids
   · simp only [hi,decide_true,Bool.not_true,Bool.false_and];symm
     rw [decide_eq_false_iff_not];intro hm;obtain ⟨t,ht,e⟩:=List.mem_map.1 hm;have:=(List.mem_filter.1 ht).2;rw [e] at this;simp [hi] at this
   simp only [hi,decide_false,Bool.not_false,Bool.true_and];congr 1
   rw [eq_iff_iff];constructor
   · intro hm;obtain ⟨t,ht,e⟩:=List.mem_map.1 hm;exact List.mem_map.2 ⟨t,List.mem_filter.2 ⟨ht,by rw [e];simp [hi]⟩,e⟩
   intro hm;obtain ⟨t,ht,e⟩:=List.mem_map.1 hm;exact List.mem_map.2 ⟨t,(List.mem_filter.1 ht).1,e⟩
 obtain ⟨h1,h2⟩:=List.mem_filter.1 ht;rw [hg.val,if_neg (by simpa using h2)];exact h.val t h1
end
section
variable {c:CR}
theorem lessL_mem (ids l:List ID) (i:ID):i∈lessL (setI ids) l↔i∈l/\i ∉ ids:=by
 unfold lessL;rw [List.mem_filter];have h:=setI_key ids i;constructor
 · rintro ⟨h1,h2⟩;refine ⟨h1,fun hm=>?_⟩;rw [decide_eq_true hm] at h;cases hx:asc (setI ids) i with
   | none=>rw [hx] at h;cases h
   | some v=>rw [hx] at h2;cases h2
 rintro ⟨h1,h2⟩;refine ⟨h1,?_⟩;rw [decide_eq_false h2] at h;cases hx:asc (setI ids) i with
 | none=>rfl
 | some v=>rw [hx] at h;cases h
end
section
theorem bg_key {L:List Int} {p:PR} (h:BgOk L p) {i:ID} (hi:i∈p.co.cand):i∈p.x.C.map (·.1)/\i ∉ (bgE L).live:=by
 obtain ⟨ys,e,hp,_⟩:=h.cand;rw [e,lessL_mem] at hi;exact ⟨hp.mem_iff.1 hi.1,hi.2⟩
theorem bg_ids {L:List Int} {p:PR} (h:BgOk L p):∀ i∈p.co.cand,okID i:=fun i hi=>by
 obtain ⟨t,_,e,ht⟩:=h.tx.key (bg_key h hi).1;rw [<- e];exact ht.ok
theorem bg_clen {L:List Int} {p:PR} (h:BgOk L p):p.co.cand.length<=11:=by
 obtain ⟨ys,e,hp,_⟩:=h.cand;have h1:=hp.length_eq;rw [List.length_map] at h1;have h2:=lessL_le (setI (bgE L).live) ys;have h3:=h.few;rw [e];omega
end
end
section
open Go.RowKit Go.MapKept Go.ChangeMaps Go.Shelf Go.Sort
attribute [local go_sem] wext_cell
end
section
open Go.RowKit Go.MapKept Go.ChangeMaps Go.Shelf Go.Sort
attribute [local go_sem] wext_cell
end
section
open Go.RowKit Go.MapKept Go.ChangeMaps Go.Shelf Go.Sort
attribute [local go_sem] wext_cell
end
section
open Go.RowKit Go.MapKept Go.ChangeMaps Go.Shelf Go.Sort
attribute [local go_sem] wext_cell

end
section
open Go.RowKit Go.MapKept Go.ChangeMaps Go.Shelf Go.Sort
attribute [local go_sem] wext_cell
end
end Go.Proofs.YteabgcollokgjaaGreatDoor

/- Q -/
import Derived.Test.YteabgcollokgjaaGreatDoorQP13
set_option linter.unusedSimpArgs false
set_option linter.unusedVariables false
set_option maxRecDepth 100000
set_option maxHeartbeats 32000000
open Go.Lib (hid)
namespace Go.Proofs.YteabgcollokgjaaGreatDoor
section
open Go.RowKit Go.Shelf Go.Sort
abbrev Ent:=ID×Nat
def ent0:Ent:=(id0,0)
instance:Inhabited Ent:=⟨ent0⟩
def encE (e:Ent):List Value:=[.int .u64 e.1.1,.int .i64 e.1.2,.int .i64 e.2]
theorem encE_len (i:Ent):(encE i).length=3:=rfl
theorem encE_one (i:Ent):∀ u∈encE i,u.oneCell'=true:=by
 intro u hu;simp [encE] at hu;rcases hu with rfl | rfl | rfl<;>rfl
theorem info166:(Tryz.prog.info? 166).map (fun i=>(i.zero,i.size,i.bytes))=some (some (.agg #[.int .u64 0,.int .i64 0,.int .i64 0]),3,24):=by kernel_rfl
def cmpE (x y:Ent):Int:=Lib.compareInt x.2 y.2
theorem lt_cmpE (x y:Ent):ltOf cmpE x y=decide (x.2<y.2):=by
 unfold ltOf cmpE Lib.compareInt;by_cases h1:x.2<y.2
 · have:(x.2:Int)<y.2:=by omega
   simp [h1,this]
 by_cases h2:(y.2:Int)<x.2
 · have:¬ (x.2:Int)<y.2:=by omega
   simp [h1,h2,this]
 have:¬ (x.2:Int)<y.2:=by omega
 simp [h1,h2,this]
theorem swoE:SWO (ltOf cmpE) where
 irrefl x:=by rw [lt_cmpE];simp
 trans x y z h1 h2:=by rw [lt_cmpE] at *; simp at *; omega
 ntrans x y z h1 h2:=by rw [lt_cmpE] at *; simp at *; omega
theorem grow2 (W:World) (a b:Obj) (q:Nat):((W.alloc a).alloc b).drewN q=grow (W.drewN q) #[a,b]:=by
 show ((W.drewN q).alloc a).alloc b=grow (W.drewN q) #[a,b];rw [alloc_eq_grow,alloc_eq_grow,grow_grow];rfl
theorem ecmp_grow (x y:Ent) (W:World):Calls Tryz.prog 153 #[.agg #[.int .u64 x.1.1,.int .i64 x.1.2,.int .i64 x.2],.agg #[.int .u64 y.1.1,.int .i64 y.1.2,.int .i64 y.2]] W fun e w'=>e= .returned (.int .i64 (cmpE x y))/\∃ q os',w'=grow (W.drewN q) os':=by
 have hcon2:=fun W'=>cmpI_any x.2 y.2 W';obtain ⟨r,Hr⟩:∃ r,Hid (Lib.compareInt x.2 y.2=r):=⟨_,rfl⟩;unfold cmpE;rw [Hr.out] at hcon2 |-; have H2:=hid hcon2;clear hcon2;go_enter Tryz.func153,Tryz.ntmps153;go_wp2_with (go_at_call 154;refine (H2.out _).mono ?_;rintro e w' ⟨rfl,hw⟩;rw [hw])
 go_ret;exact ⟨rfl,0,_,grow2 W _ _ 0⟩
section
variable {α:Type} [Inhabited α] {enc:α->List Value} {k:Nat}
theorem sort_row (hk:∀ y,(enc y).length=k) {cf:α->α->Int} {f:FuncId} {base g n cap:Nat} {e:TypeId} {xs:List α} {w:World} {gv:Value} (h:w.ownsRow base e k (.slice (some ⟨g,0,none⟩) n cap) n (xs.flatMap enc)) (hk0:0<k)
 (hcon:Calls Tryz.prog f #[.slice (some ⟨g,0,none⟩) xs.toArray.size cap,gv] w fun e w'=>e= .returned (.tuple #[])/\∃ d' m os,PermIn 0 xs.toArray.size xs.toArray d'/\SortedIn (ltOf cf) 0 xs.toArray.size d'/\w'=sortWorldK enc k w g 0 m d' os):
 Calls Tryz.prog f #[.slice (some ⟨g,0,none⟩) n cap,gv] w (fun e w'=>e= .returned (.tuple #[])/\∃ ys:List α,ys.Perm xs/\ys.Pairwise (fun a b=>ltOf cf b a=false)/\HoldsK enc k w' g 0 ys.toArray/\w.grownBy w' (some g)):=by
 have hl:=h.1;rw [flat_len hk] at hl
 have hnx:n=xs.toArray.size:=by
  have:xs.length=n:=Nat.eq_of_mul_eq_mul_right hk0 hl;simp [this]
 have hg:=h.lt g rfl;rw [<- hnx] at hcon;refine Calls.mono hcon ?_;rintro e w' ⟨he,d',m,os,hp,hs,rfl⟩;obtain ⟨hsz,_,hperm⟩:=hp;rw [hnx,Array.extract_size,show xs.toArray.size=d'.size from hsz.symm,Array.extract_size] at hperm;have hH:=holdsK_putRowK (enc:=enc) (k:=k) (Sort.ahead w m) g 0 xs.toArray d' (holdsK_of_own hk hk0 h) hsz
 have hgrow:w.grownBy (sortWorldK enc k w g 0 m d' os) (some g):=by
  refine ⟨rfl,rfl,rfl,by simp [sortWorldK,putRowK],fun j hj hne=>?_⟩;unfold sortWorldK;rw [heap_grow_old _ _ (by simpa [putRowK] using hj)];have:g≠j:=fun e=>hne (by rw [e]);simp [putRowK,putRow,mapBlock,Sort.ahead,Array.getElem?_modify,this]
 refine ⟨he,d'.toList,by simpa using hperm,?_,?_,hgrow⟩
 · rw [List.pairwise_iff_getElem];intro i j hi hj hij;have hi':i<d'.size:=by simpa using hi
   have hj':j<d'.size:=by simpa using hj
   have:=hs i j (Nat.zero_le _) hij (by omega);rw [getElem!_pos d' i hi',getElem!_pos d' j hj'] at this;simpa using this
 exact holdsK_grow (enc:=enc) (k:=k) _ _ _ _ _ (by simpa [putRowK] using hg.2) hH
end
theorem sortE_any (base g n cap:Nat) (xs:List Ent) (w:World) (h:w.ownsRow base 166 3 (.slice (some ⟨g,0,none⟩) n cap) n (xs.flatMap encE)) (hn:xs.length<=4294967296):
 Calls Tryz.prog 152 #[.slice (some ⟨g,0,none⟩) n cap,.func (.func 153) #[] #[]] w (fun e w'=>e= .returned (.tuple #[])/\∃ ys:List Ent,ys.Perm xs/\ys.Pairwise (fun a b=>a.2<=b.2)/\HoldsK encE 3 w' g 0 ys.toArray/\w.grownBy w' (some g)):=by
 have hg:=h.lt g rfl;have eg:∀ args w,(callFunc 153 args).run Tryz.prog w= .ok (.enter 153 args) w:=enters_of Tryz.func153 (by kernel_rfl) rfl
 refine (sort_row encE_len (cf:=cmpE) h (by omega) (AnyQ.slices_SortFunc Tryz.lay152 3 Tryz.isAgg166 Tryz.sizeOf166 encE (fun _=>rfl) encE_one cmpE swoE 153 #[] g 0 cap xs.toArray w eg
  (fun _ _ _ _ x y=>ecmp_grow x y _) (holdsK_of_own encE_len (by omega) h) hg.2 (by simp;omega))).mono ?_
 rintro e w' ⟨rfl,ys,h1,h2,h3,h4⟩;refine ⟨rfl,ys,h1,h2.imp (fun {a b} hab=>?_),h3,h4⟩;rw [lt_cmpE] at hab;simpa using hab
end
section
open Go.RowKit Go.MapKept Go.ChangeMaps Go.Shelf Go.Sort
def durs:Chs->List Ent
 | []=>[]
 | (i,.at o)::C=>(i,o)::durs C
 | (_,.pend _ _)::C=>durs C
theorem durs_app (C D:Chs):durs (C++D)=durs C++durs D:=by
 induction C with
 | nil=>rfl
 | cons c C ih=>
  obtain ⟨i,pl⟩:=c;cases pl with
  | pend d bs=>exact ih
  | «at» o=>simp [durs,ih]
theorem durs_perm {C D:Chs} (h:C.Perm D):(durs C).Perm (durs D):=by
 induction h with
 | nil=>exact .nil
 | cons c _ ih=>
  obtain ⟨i,pl⟩:=c;cases pl with
  | pend d bs=>exact ih
  | «at» o=>exact ih.cons _
 | swap c d l=>
  obtain ⟨i,pl⟩:=c;obtain ⟨j,pm⟩:=d;cases pl<;>cases pm<;>simp only [durs]
  all_goals first | exact .refl _ | exact .swap _ _ _
 | trans _ _ h1 h2=>exact h1.trans h2
theorem durs_len (C:Chs):(durs C).length<=C.length:=by
 induction C with
 | nil=>simp [durs]
 | cons c C ih=>
  obtain ⟨i,pl⟩:=c;cases pl<;>simp [durs]<;>omega
abbrev vI (v:Value):Value:=v
def eM (v:Value) (n:Nat):List (Int×Value):=if n=0 then [] else [(1,v)]
theorem own_base {w:World} {base:Nat} {e:TypeId} {size n:Nat} {v:Value} {xs:List Value} (h:w.ownsRow 0 e size v n xs) (hb:∀ g,v.ownBlock=some g->base<=g):w.ownsRow base e size v n xs:=by
 refine ⟨h.1,?_⟩;rcases h.2 with h2 | ⟨g,cap,cur,hv,hb0,hr⟩
 · exact .inl h2
 exact .inr ⟨g,cap,cur,hv,hb g (by rw [hv];rfl),hr⟩
theorem zero163 (W:World):(zeroValue 163).run Tryz.prog W= .ok (.slice none 0 0) W:=by
 kernel_rfl
theorem okN1:okN 1:=by unfold okN;decide
theorem look_eM {w:World} {am n:Nat} {v:Value} (h:MapIs okN vN vI w am (eM v n)) (hv:n=0->v= .slice none 0 0):(Instr.lookup 161 (.map (some am)) (.int .i64 1) false).run Tryz.prog w= .ok v w:=by
 have:=MapIs.look mkN Tryz.underlying161 (zero163 w) h okN1 false;rw [show (Value.int .i64 1)=vN 1 from rfl,this];by_cases hn:n=0
 · subst hn;rw [hv rfl];rfl
 simp [eM,hn,asc]
theorem setL_eM (v v':Value) (n:Nat):setL (eM v n) 1 v'=eM v' (n+1):=by
 unfold eM;by_cases hn:n=0<;>simp [hn,setL]
theorem three_new (W:World) (x y z:Value) (t:TypeId) (H:Nat) (hH:W.heap.size=H):∀ j u,[x,y,z][j]? =some u->(W.alloc (.cells #[x,y,z] t)).cell? ((⟨H,0,none⟩:Addr).add j)=some u:=by
 intro j u hu;rw [lit_add,Nat.zero_add,new_cell W t #[x,y,z] H hH j];simpa using hu
theorem eql34 (w:World) (a:Option Addr) (n c n' c':Nat):(binOp .eql 34 (.slice a n c) (.slice none n' c')).run Tryz.prog w= .ok (.bool a.isNone) w:=Lib.run_eql_slice_nil w _ _ a n c n' c' Tryz.underlying34
theorem wpList_next_eM (w:World) {ops:Array Oper} {rest:List Oper} {o:Oper} {a:Act} {Q:Exit->Act->World->Prop} (hg:o.guard=none) (it:Operand) (hop:o.op=Op.next it false) (b r:Nat) (v:Value) (n:Nat) (done:List (Int×Value)) (cnt:Nat)
 (hit:a.eval it= .pointer (some ⟨r,0,none⟩)) (h:RIs okN vN vI w b r (eM v n) done cnt)
 (hDone:done.Perm (eM v n)->wpList Tryz.prog ops Q rest (a.put o.dst (.tuple #[.bool false])) w)
 (hMore:∀ (w':World) (cnt':Nat),n≠0->RIs okN vN vI w' b r (eM v n) (done++[(1,v)]) cnt'->cnt'<cnt->w.grownBy w' (some r)->Hid (w'.heap.size=w.heap.size)->
   (Instr.entry (.pointer (some ⟨r,0,none⟩))).run Tryz.prog w'= .ok (.tuple #[.int .i64 1,v]) w'->wpList Tryz.prog ops Q rest (a.put o.dst (.tuple #[.bool true,.int .i64 1,v])) w'):
 wpList Tryz.prog ops Q (o::rest) a w:=
 wpList_next_is w hg it hop b r (eM v n) done cnt hit h hDone (fun c w' cnt' h1 h2 h3 h4 h5 h6=>by
  have hn:n≠0:=by
   intro e;rw [e] at h1;simp [eM] at h1
  have hc:c=(1,v):=by
   rw [eM,if_neg hn] at h1;simpa using h1
  subst hc;exact hMore w' cnt' hn h2 h3 h4 h5 h6)
def EntPost (C:Chs) (w:World) (e:Ending) (w':World):Prop:=
 ∃ (v:Value) (xs:List Ent) (am:Nat),e= .returned (.map (some am))/\w.heap.size<=am/\MapIs okN vN vI w' am (eM v xs.length)/\xs.Perm (durs C)/\xs.Pairwise (fun a b=>a.2<=b.2)/\(xs=[]->v= .slice none 0 0)/\
  (xs≠[]->∃ g c,v= .slice (some ⟨g,0,none⟩) xs.length c/\w.heap.size<=g/\g<w'.heap.size/\HoldsK encE 3 w' g 0 xs.toArray)/\Below w.heap.size w w'
theorem entries_any (ps cm:Nat) (C:Chs) (w:World) (hc:w.cell? ⟨ps,2,none⟩=some (.map (some cm))) (hm:MapIs okID vID vPl w cm C) (hC:C.length<=1000000) (hpd:∀ i d bs,(i,Pl.pend d bs)∈C->d.A≠none):
 Calls Tryz.prog 100 #[vPtr ps] w (EntPost C w):=by
 obtain ⟨i0,hi,hz0,hz1,hz2⟩:=info_parts info166
 have hpsl:ps<w.heap.size:=by
  by_cases h:ps<w.heap.size
  · exact h
  simp [World.cell?, Array.getElem?_eq_none (Nat.le_of_not_lt h)] at hc
 have hcW:(w.alloc (.map #[] 0)).cell? ⟨ps,2,none⟩=some (.map (some cm)):=((bel1q w (.map #[] 0)).cell (p:=⟨ps,2,none⟩) hpsl).trans hc;have Hm:Hid (MapIs okID vID vPl (w.alloc (.map #[] 0)) cm C):=hm.alloc _;have HPD:=hid hpd;have hbw:=hm.lt;have M0:Hid (MapIs okN vN vI (w.alloc (.map #[] 0)) w.heap.size (eM (.slice none 0 0) 0)):=MapIs.made w;have hmk:(Instr.makeMap 161 none).run Tryz.prog w= .ok (.map (some w.heap.size)) (w.alloc (.map #[] 0)):=by simp [Instr.makeMap,run_underlying Tryz.underlying161]
 clear hm hpd;go_enter Tryz.func100,Tryz.ntmps100;go_wp2_with (at_range;refine wpList_range_is _ rfl _ 128 rfl 31 138 Tryz.underlying128 cm C rfl Hm.out ?_;intro w0 hrg0 hg0 hs0)
 rw [show (w.alloc (.map #[] 0)).heap.size=w.heap.size+1 from by simp] at hrg0;have Hrg0:=hid hrg0;have Hb0:Hid (Below w.heap.size w w0):=(bel1q w (.map #[] 0)).grown hg0 (by simp) (by simp);have M1:=hid (M0.out.kept hg0 (by simp));clear hrg0 hg0 hs0;clear hmk;rw [show (w.alloc (.map #[] 0)).heap.size=w.heap.size+1 from by simp];go_frame
 go_loopw [] (fun wr=>∃ (done:Chs) (v:Value) (cnt:Nat),RIs okID vID vPl wr cm (w.heap.size+1) C done cnt/\MapIs okN vN vI wr w.heap.size (eM v (durs done).length)/\wr.ownsRow 0 166 3 v (durs done).length ((durs done).flatMap encE)/\(∀ g,v.ownBlock=some g->w.heap.size+2<=g)/\((durs done).length=0->v= .slice none 0 0)/\Below w.heap.size w wr) (fun wr=>wr.rangeLeft cm (w.heap.size+1))
 case atStart=>exact ⟨[],.slice none 0 0,_,Hrg0.out,M1.out,World.ownsRow_nil _ _ _ _,(fun g hg=>by cases hg),fun _=>rfl,Hb0.out⟩
 obtain ⟨done,v,cnt,hrg,hmp,hown,hnew,hnil,hb⟩:=hrel;have hsz:=hb.size;have Hleft:=hid hrg.left_eq;have Hrg:=hid hrg;have Hmp:=hid hmp;have Hown:=hid hown;have Hnew:=hid hnew;have Hnil:=hid hnil;have Hb:=hid hb;clear hrg hmp hown hnew hnil hb
 go_wp2_with (first
  | (at_next;(refine wpList_next_ch _ rfl _ rfl cm (w.heap.size+1) C done cnt rfl Hrg.out (fun hp=>?_) (fun i pl w1 cnt1 hc1 hrg1 hlt1 hg1 hs1 hen=>halt_ ?_)))
  | (at_range;refine halt_ ?_))
 · rename World=>wa;have Hp:=hid (durs_perm hp)
   have hdl:(durs done).length<=1000000:=by
    have h1:=(durs_perm hp).length_eq;have h3:=durs_len C;omega
   clear hp;obtain ⟨xs,HX⟩:∃ xs,Hid (durs done=xs):=⟨_,rfl⟩;rw [HX.out] at Hp hdl Hnil Hown Hmp;clear HX Hrg
   have hvs:v= .slice none 0 0/\xs=[]∨∃ g cap,v= .slice (some ⟨g,0,none⟩) xs.length cap:=by
    rcases Hown.out.2 with ⟨hv,hx⟩ | ⟨g,cap,cur,hv,_⟩
    · refine .inl ⟨hv,?_⟩;have h1:=Hown.out.1;rw [hx] at h1;simp at h1;exact List.eq_nil_of_length_eq_zero (by omega)
    exact .inr ⟨g,cap,hv⟩
   rcases hvs with ⟨rfl,rfl⟩ | ⟨g,cap,rfl⟩
   · have Hmp0:Hid (MapIs okN vN vI wa w.heap.size (eM (.slice none 0 0) 0)):=Hmp.out;refine wpList_range_is _ rfl _ 161 rfl 3 163 Tryz.underlying161 w.heap.size (eM (.slice none 0 0) 0) rfl Hmp0.out ?_;intro w2 hrg2 hg2 hs2;have Hrg2:=hid hrg2;have HB2:Hid (Below w.heap.size w w2):=Hb.out.grown hg2 hsz (by simp);clear hrg2 hg2 hs2;go_wp2_with fail
     go_loopw [] (fun wq=>wq=w2) (fun wq=>0)
     case atStart=>rfl
     subst hrel;go_wp2_with (at_next;refine wpList_next_eM _ rfl _ rfl w.heap.size wa.heap.size _ 0 [] 0 rfl Hrg2.out (fun hp=>?_) (fun w3 cnt3 hn3 _ _ _ _ _=>absurd rfl hn3))
     go_ret;exact ⟨.slice none 0 0,[],w.heap.size,rfl,Nat.le_refl _,Hrg2.out.map,Hp.out,List.Pairwise.nil,fun _=>rfl,(fun hx=>absurd rfl hx),HB2.out⟩
   have hown':=own_base (base:=w.heap.size+2) Hown.out Hnew.out;have hgl:=hown'.lt g rfl;have Hown':=hid hown';clear hown';refine wpList_range_is _ rfl _ 161 rfl 3 163 Tryz.underlying161 w.heap.size (eM (.slice (some ⟨g,0,none⟩) xs.length cap) xs.length) rfl Hmp.out ?_;intro w2 hrg2 hg2 hs2;have Hrg2:=hid hrg2;have HB2:Hid (Below w.heap.size w w2):=Hb.out.grown hg2 hsz (by simp);have HO2:=hid (Hown'.out.kept hg2 (.inr (by simp [Value.ownBlock])));clear hrg2 hg2;go_wp2_with fail
   go_frame
   go_loopw [] (fun wq=>∃ (done2:List (Int×Value)) (cnt2:Nat),RIs okN vN vI wq w.heap.size wa.heap.size (eM (.slice (some ⟨g,0,none⟩) xs.length cap) xs.length) done2 cnt2/\Below w.heap.size w wq/\((done2=[]/\wq.ownsRow (w.heap.size+2) 166 3 (.slice (some ⟨g,0,none⟩) xs.length cap) xs.length (xs.flatMap encE))∨(1<=done2.length/\∃ ys:List Ent,ys.Perm xs/\ys.Pairwise (fun a b=>a.2<=b.2)/\HoldsK encE 3 wq g 0 ys.toArray))) (fun wq=>wq.rangeLeft w.heap.size wa.heap.size)
   case atStart=>exact ⟨[],_,Hrg2.out,HB2.out,.inl ⟨rfl,HO2.out⟩⟩
   obtain ⟨done2,cnt2,hrg3,hb3,hst⟩:=hrel;have Hrg3:=hid hrg3;have HB3:=hid hb3;have HST:=hid hst;have Hleft2:=hid hrg3.left_eq;have hsz3:=hb3.size;clear hrg3 hb3 hst;go_wp2_with (at_next;refine wpList_next_eM _ rfl _ rfl w.heap.size wa.heap.size _ xs.length done2 cnt2 rfl Hrg3.out (fun hp=>?_) (fun w3 cnt3 hn3 hrg4 hlt4 hg4 hs4 hen4=>halt_ ?_))
   · go_ret;rcases HST.out with ⟨rfl,ho⟩ | ⟨h1,ys,y1,y2,y3⟩
     · have h0:xs.length=0:=by
        have:=hp.length_eq;by_cases hx:xs.length=0
        · exact hx
        simp [eM,hx] at this
       have hv:=Hnil.out h0;cases hv
     refine ⟨.slice (some ⟨g,0,none⟩) xs.length cap,ys,w.heap.size,rfl,Nat.le_refl _,?_,y1.trans Hp.out,y2,fun hy=>?_,fun _=>?_,HB3.out⟩
     · rw [y1.length_eq];exact Hrg3.out.map
     · subst hy;exact Hnil.out y1.length_eq.symm
     exact ⟨g,cap,by rw [y1.length_eq],by omega,by have:=Hrg3.out.lt;omega,y3⟩
   have hd2:done2=[]:=by
    have:=hrg4.len;rw [eM,if_neg hn3] at this;simp at this;exact this
   subst hd2
   obtain ⟨_,ho3⟩:([]:List (Int×Value))=[]/\_:=by
    rcases HST.out with h | h
    · exact h
    exact absurd h.1 (by simp)
   have HO4:=hid (ho3.kept hg4 (.inr (fun e=>Hrg3.out.own_ne ho3 e.symm)));have HB4:Hid (Below w.heap.size w w3):=HB3.out.grown hg4 hsz3 (fun k hk=>by injection hk with hk;omega);have Hrg4:=hid hrg4;have Hlt4:=hid hlt4;clear hrg4 hlt4 hg4 ho3;refine hid ?_;go_wp2_with (go_at_call 152;refine halt_ ?_)
   refine (sortE_any (w.heap.size+2) g xs.length cap xs _ HO4.out (by omega)).mono ?_;rintro e w5 ⟨rfl,ys,y1,y2,y3,y4⟩;have Y1:=hid y1;have Y2:=hid y2;have Y3:=hid y3;have Y4:=hid y4;clear y1 y2 y3 y4 hen4;have hneg:some w.heap.size≠some g:=by intro e;injection e with e;omega
   have Hrg5:=hid (Hrg4.out.kept Y4.out hneg (Hrg4.out.own_ne HO4.out));have HB5:Hid (Below w.heap.size w w5):=HB4.out.grown Y4.out HB4.out.size (fun k hk=>by injection hk with hk;omega);go_wp2_with fail
   go_roundw
   case rel=>exact ⟨_,cnt3,Hrg5.out,HB5.out,.inr ⟨by simp,ys,Y1.out,Y2.out,Y3.out⟩⟩
   rw [Hrg5.out.left_eq,Hleft2.out];exact Hlt4.out
 have Hc1:=hid hc1;have hs1':w1.heap.size=_:=hs1.out;have K1:Hid (w1.ownsRow 0 166 3 v (durs done).length ((durs done).flatMap encE)):=Hown.out.kept hg1 (.inr (fun e=>Hrg.out.own_ne Hown.out e.symm));have Hb1:Hid (Below w.heap.size w w1):=Hb.out.grown hg1 hsz (fun k hk=>by injection hk with hk;omega);have M1':Hid (MapIs okN vN vI w1 w.heap.size (eM v (durs done).length)):=Hmp.out.kept hg1 (by simp);have hsz1:=Hb1.out.size;have Hrg1:=hid hrg1;have Hlt1:=hid hlt1
 have hdl:(durs done).length<=1000000:=by
  have h1:=hrg1.len;have h3:=durs_len done;simp at h1;omega
 clear hc1 hrg1 hlt1 hg1 hs1';refine hid ?_;cases pl with
 | pend d bs=>
  have hA:=HPD.out i d bs Hc1.out
  have q:∀ W,(binOp .eql 34 (.slice (Pl.pend d bs).A (Pl.pend d bs).len (Pl.pend d bs).cap) (.slice none 0 0)).run Tryz.prog W= .ok (.bool false) W:=fun W=>by
   rw [eql34];cases hd:d.A with
   | none=>exact absurd hd hA
   | some ad=>simp [Pl.A,hd]
  clear hA;go_wp2_with fail
  go_roundw
  case rel=>
   refine ⟨done++[(i,.pend d bs)],v,cnt1,(Hrg1.out.alloc _).alloc _,?_,?_,Hnew.out,?_,(Hb1.out.alloc hsz1 _).alloc (by simp;omega) _⟩
   · rw [durs_app];simpa [durs] using (M1'.out.alloc _).alloc _
   · rw [durs_app];simpa [durs] using (K1.out.alloc _).alloc _
   rw [durs_app];simpa [durs] using Hnil.out
  rw [((Hrg1.out.alloc _).alloc _).left_eq,Hleft.out];exact Hlt1.out
 | «at» o=>
  have q:∀ W,(binOp .eql 34 (.slice (Pl.at o).A (Pl.at o).len (Pl.at o).cap) (.slice none 0 0)).run Tryz.prog W= .ok (.bool true) W:=fun W=>by
   rw [eql34];rfl
  go_wp2_with fail
  clear hen q;have IA:Hid (IsB ((w1.alloc (.cells #[.int .u64 i.1,.int .i64 i.2] 31)).alloc (.cells #[.slice (Pl.at o).A (Pl.at o).len (Pl.at o).cap,.int .i64 (Pl.at o).f,.int .i64 (Pl.at o).o] 138)) w1.heap.size 31 #[.int .u64 i.1,.int .i64 i.2]):=(IsB.new _ _ _).alloc _
  have IB:Hid (IsB ((w1.alloc (.cells #[.int .u64 i.1,.int .i64 i.2] 31)).alloc (.cells #[.slice (Pl.at o).A (Pl.at o).len (Pl.at o).cap,.int .i64 (Pl.at o).f,.int .i64 (Pl.at o).o] 138)) (w1.heap.size+1) 138 #[.slice none 0 0,.int .i64 1,.int .i64 o]):=by
   have:=IsB.new (w1.alloc (.cells #[.int .u64 i.1,.int .i64 i.2] 31)) 138 #[.slice (Pl.at o).A (Pl.at o).len (Pl.at o).cap,.int .i64 (Pl.at o).f,.int .i64 (Pl.at o).o];rw [show (w1.alloc (.cells #[.int .u64 i.1,.int .i64 i.2] 31)).heap.size=w1.heap.size+1 from by simp] at this;exact this
  have K2:=hid ((K1.out.alloc (.cells #[.int .u64 i.1,.int .i64 i.2] 31)).alloc (.cells #[.slice (Pl.at o).A (Pl.at o).len (Pl.at o).cap,.int .i64 (Pl.at o).f,.int .i64 (Pl.at o).o] 138));have M2:=hid ((M1'.out.alloc (.cells #[.int .u64 i.1,.int .i64 i.2] 31)).alloc (.cells #[.slice (Pl.at o).A (Pl.at o).len (Pl.at o).cap,.int .i64 (Pl.at o).f,.int .i64 (Pl.at o).o] 138));have R2:=hid ((Hrg1.out.alloc (.cells #[.int .u64 i.1,.int .i64 i.2] 31)).alloc (.cells #[.slice (Pl.at o).A (Pl.at o).len (Pl.at o).cap,.int .i64 (Pl.at o).f,.int .i64 (Pl.at o).o] 138));have B2:Hid (Below w.heap.size w ((w1.alloc (.cells #[.int .u64 i.1,.int .i64 i.2] 31)).alloc (.cells #[.slice (Pl.at o).A (Pl.at o).len (Pl.at o).cap,.int .i64 (Pl.at o).f,.int .i64 (Pl.at o).o] 138))):=(Hb1.out.alloc hsz1 _).alloc (by simp;omega) _;generalize ((w1.alloc (.cells #[.int .u64 i.1,.int .i64 i.2] 31)).alloc (.cells #[.slice (Pl.at o).A (Pl.at o).len (Pl.at o).cap,.int .i64 (Pl.at o).f,.int .i64 (Pl.at o).o] 138))=W at IA IB K2 M2 R2 B2 |-; obtain ⟨n,Hn⟩:∃ n,Hid ((durs done).length=n):=⟨_,rfl⟩;rw [Hn.out] at K2 M2 hdl Hnil;have hl1:(Instr.lookup 161 (.map (some w.heap.size)) (.int .i64 1) false).run Tryz.prog W.drew= .ok v W.drew:=look_eM (w:=W.drew) M2.out Hnil.out
  have hl2:(Instr.lookup 161 (.map (some w.heap.size)) (.int .i64 1) false).run Tryz.prog (W.alloc (.cells #[.int .u64 i.1,.int .i64 i.2,.int .i64 o] 166)).drew= .ok v (W.alloc (.cells #[.int .u64 i.1,.int .i64 i.2,.int .i64 o] 166)).drew:=look_eM (w:=(W.alloc (.cells #[.int .u64 i.1,.int .i64 i.2,.int .i64 o] 166)).drew) (M2.out.alloc _) Hnil.out;have a0:W.cell? ⟨w1.heap.size,0,none⟩=some (.int .u64 i.1):=IA.out.cell 0;have a1:W.cell? ⟨w1.heap.size,1,none⟩=some (.int .i64 i.2):=IA.out.cell 1;have b1:W.cell? ⟨w1.heap.size+1,1,none⟩=some (.int .i64 1):=IB.out.cell 1;have b2:W.cell? ⟨w1.heap.size+1,2,none⟩=some (.int .i64 o):=IB.out.cell 2;have iaw:=IA.out.lt;have ibw:=IB.out.lt
  have hfin:∀ v' w3,w3.ownsRow 0 166 3 v' (n+1) ((durs done).flatMap encE++[.int .u64 i.1,.int .i64 i.2,.int .i64 o])->(W.alloc (.cells #[.int .u64 i.1,.int .i64 i.2,.int .i64 o] 166)).drew.grownBy w3 v.ownBlock->v'.ownBlock=v.ownBlock∨v'.ownBlock=some (W.alloc (.cells #[.int .u64 i.1,.int .i64 i.2,.int .i64 o] 166)).drew.heap.size->∃ w4,(Instr.mapUpdate 161 (.map (some w.heap.size)) (.int .i64 1) v').run Tryz.prog w3= .ok () w4/\Hid ((w4.cell? ⟨w1.heap.size,0,none⟩=some (.int .u64 i.1)/\w4.cell? ⟨w1.heap.size,1,none⟩=some (.int .i64 i.2)/\w4.cell? ⟨w1.heap.size+1,1,none⟩=some (.int .i64 1)/\w4.cell? ⟨w1.heap.size+1,2,none⟩=some (.int .i64 o))/\(w3.cell? ⟨w1.heap.size,0,none⟩=some (.int .u64 i.1)/\w3.cell? ⟨w1.heap.size,1,none⟩=some (.int .i64 i.2)/\w3.cell? ⟨w1.heap.size+1,1,none⟩=some (.int .i64 1)/\w3.cell? ⟨w1.heap.size+1,2,none⟩=some (.int .i64 o)))/\Hid (∃ (done':Chs) (v:Value) (cnt:Nat),done'=done++[(i,.at o)]/\cnt=cnt1/\RIs okID vID vPl w4 cm (w.heap.size+1) C done' cnt/\MapIs okN vN vI w4 w.heap.size (eM v (durs done').length)/\w4.ownsRow 0 166 3 v (durs done').length ((durs done').flatMap encE)/\(∀ g,v.ownBlock=some g->w.heap.size+2<=g)/\((durs done').length=0->v= .slice none 0 0)/\Below w.heap.size w w4):=by
   intro v' w3 hown3 hgr3 hbk3;have MW:MapIs okN vN vI (W.alloc (.cells #[.int .u64 i.1,.int .i64 i.2,.int .i64 o] 166)).drew w.heap.size (eM v n):=M2.out.alloc _;have M3:=MW.kept hgr3 (M2.out.own_ne K2.out);obtain ⟨w4,hu,hm4,hg4,hz4⟩:=MapIs.update mkN Tryz.underlying161 M3 okN1 v';rw [setL_eM] at hm4;have IAW:IsB (W.alloc (.cells #[.int .u64 i.1,.int .i64 i.2,.int .i64 o] 166)).drew w1.heap.size 31 #[.int .u64 i.1,.int .i64 i.2]:=IA.out.alloc _;have IBW:IsB (W.alloc (.cells #[.int .u64 i.1,.int .i64 i.2,.int .i64 o] 166)).drew (w1.heap.size+1) 138 #[.slice none 0 0,.int .i64 1,.int .i64 o]:=IB.out.alloc _;have IA3:=IAW.grown hgr3 (IA.out.own_ne K2.out (by decide));have IB3:=IBW.grown hgr3 (IB.out.own_ne K2.out (by decide));have IA4:=IA3.grown hg4 (map_ne M3 IA3);have IB4:=IB3.grown hg4 (map_ne M3 IB3);have RW:RIs okID vID vPl (W.alloc (.cells #[.int .u64 i.1,.int .i64 i.2,.int .i64 o] 166)).drew cm (w.heap.size+1) C (done++[(i,.at o)]) cnt1:=R2.out.alloc _;have R4:=(RW.kept hgr3 (R2.out.map.own_ne K2.out) (R2.out.own_ne K2.out)).kept hg4 (by intro e;injection e with e;omega) (by intro e;injection e with e;omega);have own4:=hown3.kept hg4 (.inr (fun e=>M3.own_ne hown3 e.symm));have hBW:Below w.heap.size w (W.alloc (.cells #[.int .u64 i.1,.int .i64 i.2,.int .i64 o] 166)).drew:=(B2.out.alloc (B2.out.size) _).drew
   have hB3:Below w.heap.size w w3:=hBW.grown hgr3 hBW.size (fun k hk=>by have:=Hnew.out k hk;omega);have hB4:Below w.heap.size w w4:=hB3.grown hg4 hB3.size (fun k hk=>by injection hk with hk;omega)
   have hdl':(durs (done++[(i,Pl.at o)])).length=n+1:=by
    rw [durs_app,List.length_append,Hn.out];rfl
   refine ⟨w4,hu,⟨⟨IA4.cell 0,IA4.cell 1,IB4.cell 1,IB4.cell 2⟩,⟨IA3.cell 0,IA3.cell 1,IB3.cell 1,IB3.cell 2⟩⟩,done++[(i,.at o)],v',cnt1,rfl,rfl,R4,?_,?_,?_,?_,hB4⟩
   · rw [hdl'];exact hm4
   · rw [hdl',durs_app,List.flatMap_append];exact own4
   · intro g hg;rcases hbk3 with e | e
     · exact Hnew.out g (e ▸ hg)
     rw [e] at hg;injection hg with hg;have h1:=Hrg1.out.lt;have h2:=B2.out.size;have:W.heap.size+1=g:=by simpa using hg
     omega
   rw [hdl'];intro h;omega
  have HFIN:=hid hfin;have KO:Hid ((W.alloc (.cells #[.int .u64 i.1,.int .i64 i.2,.int .i64 o] 166)).drew.ownsRow 0 166 3 v n ((durs done).flatMap encE)):=K2.out.alloc _;have KN:Hid (∀ j u,[Value.int .u64 i.1,.int .i64 i.2,.int .i64 o][j]? =some u->(W.alloc (.cells #[.int .u64 i.1,.int .i64 i.2,.int .i64 o] 166)).drew.cell? ((⟨W.heap.size,0,none⟩:Addr).add j)=some u):=three_new W _ _ _ _ _ rfl;have KE:Hid (∀ u∈[Value.int .u64 i.1,.int .i64 i.2,.int .i64 o],u.oneCell'=true):=encE_one (i,o);have h03:0<3:=by omega
  have h01:0<1:=by omega
  have h63:n+1<=maxLen:=by unfold maxLen;omega
  have hby:(n+1)*24<=140737488355328:=by omega
  clear hfin
  go_region_held3 (fun w'=>w'.cell? ⟨w1.heap.size,0,none⟩=some (.int .u64 i.1)/\w'.cell? ⟨w1.heap.size,1,none⟩=some (.int .i64 i.2)/\w'.cell? ⟨w1.heap.size+1,1,none⟩=some (.int .i64 1)/\w'.cell? ⟨w1.heap.size+1,2,none⟩=some (.int .i64 o))
   (first | go_keep | exact K5.out.2 | exact K5.out.1)
   (first
     | ((with_reducible refine step_append_row rfl _ _ 163 rfl 166 i0 _ 3 24 Tryz.underlying163 hi hz0 hz1 hz2 rfl h03 v n _ rfl KO.out ⟨W.heap.size,0,none⟩ 1 1 [.int .u64 i.1,.int .i64 i.2,.int .i64 o] rfl rfl KN.out KE.out h01 h63 hby ?_);intro v' w3 hown3 hgr3 hbk3;obtain ⟨w4,hu,K5,K6⟩:=HFIN.out v' w3 hown3 hgr3 hbk3;clear hown3 hgr3 hbk3))
  all_goals (
   go_wp2_with fail
   go_roundw
   case rel=>
    obtain ⟨done',v',cnt',e1,e2,h3⟩:=K6.out;exact ⟨done',v',cnt',h3⟩
   obtain ⟨done',v',cnt',e1,e2,h3,_⟩:=K6.out;rw [h3.left_eq,Hleft.out,e2];exact Hlt1.out)
def rowOb (e:TypeId) (size:Nat) (v:Value) (n:Nat) (xs:List Value):Ob where
 own:=fun i=>v.ownBlock=some i
 rd:=fun _=>False
 holds:=fun w=>w.ownsRow 0 e size v n xs
 stable:=fun w w' h hs hk=>by
  refine ⟨h.1,?_⟩;rcases h.2 with h2 | ⟨g,cap,cur,hv,h0,hh,hr⟩
  · exact .inl h2
  exact .inr ⟨g,cap,cur,hv,h0,(hk g (.inl (by rw [hv];rfl))).trans hh,hr⟩
def riOb (A:Option Addr) (ys:List ID):Ob where
 own:=fun _=>False
 rd:=fun i=>A=some ⟨i,0,none⟩
 holds:=fun w=>(A=none->ys=[])/\∀ ad,A=some ad->∃ g,ad=⟨g,0,none⟩/\RowI w g ys/\g<w.heap.size
 stable:=fun w w' h hs hk=>by
  refine ⟨h.1,fun ad e=>?_⟩;obtain ⟨g,rfl,⟨cur,hi,hr⟩,hlt⟩:=h.2 ad e;exact ⟨g,rfl,⟨cur,(hk g (.inr e)).trans hi,hr⟩,Nat.lt_of_lt_of_le hlt hs.2.2.2⟩
def EntsAt (w:World) (v:Value) (ys:List Ent):Prop:=(ys=[]->v= .slice none 0 0)/\(ys≠[]->∃ g c,v= .slice (some ⟨g,0,none⟩) ys.length c/\g<w.heap.size/\∀ j,j<ys.length->w.cell? ⟨g,j*3,none⟩=some (.int .u64 (ys.getD j ent0).1.1)/\w.cell? ⟨g,j*3+1,none⟩=some (.int .i64 (ys.getD j ent0).1.2)/\w.cell? ⟨g,j*3+2,none⟩=some (.int .i64 (ys.getD j ent0).2))
def ebOb (v:Value) (ys:List Ent):Ob where
 own:=fun _=>False
 rd:=fun i=>v.ownBlock=some i
 holds:=fun w=>EntsAt w v ys
 stable:=fun w w' h hs hk=>by
  refine ⟨h.1,fun hy=>?_⟩;obtain ⟨g,c,hv,hlt,hc⟩:=h.2 hy;have h2:=hk g (.inr (by rw [hv];rfl));refine ⟨g,c,hv,Nat.lt_of_lt_of_le hlt hs.2.2.2,fun j hj=>?_⟩;obtain ⟨c0,c1,c2⟩:=hc j hj;refine ⟨?_,?_,?_⟩
  · rw [<- c0];simp [World.cell?, h2]
  · rw [<- c1];simp [World.cell?, h2]
  rw [<- c2];simp [World.cell?, h2]
def SW (b:Nat) (w0:World) (l:List Ob) (w:World):Prop:=Sep b w l/\Below b w0 w
section
variable {b:Nat} {w0 w w':World} {l:List Ob} {o o':Ob}
theorem SW.refl (h:Sep b w l):SW b w l w:=⟨h,Below.refl _ _⟩
theorem SW.on (h:SW b w0 l w) (hb:Below w.heap.size w w'):SW b w0 l w':=⟨h.1.on hb,h.2.trans (hb.mono h.1.base)⟩
theorem SW.drew (h:SW b w0 l w):SW b w0 l w.drew:=h.on ((Below.refl _ _).drew)
theorem SW.alloc (h:SW b w0 l w) (x:Obj):SW b w0 l (w.alloc x):=h.on ((Below.refl _ _).alloc (Nat.le_refl _) x)
theorem SW.sub {l':List Ob} (h:SW b w0 l w) (hs:l'.Sublist l):SW b w0 l' w:=⟨h.1.sub hs,h.2⟩
theorem SW.tail (h:SW b w0 (o::l) w):SW b w0 l w:=⟨h.1.tail,h.2⟩
theorem SW.cell (h:SW b w0 l w) (k:Nat) {g:Nat} {t:TypeId} {cs:Array Value} (hk:l[k]? =some (cellOb g t cs)):IsB w g t cs:=h.1.get hk
theorem SW.get (h:SW b w0 l w) (k:Nat) (hk:l[k]? =some o):o.holds w:=h.1.get hk
theorem SW.setAt (h:SW b w0 l w) (k:Nat) {g:Nat} {t:TypeId} {cs:Array Value} (hk:l[k]? =some (cellOb g t cs)) (j:Nat) (u:Value):SW b w0 (l.set k (cellOb g t (cs.setIfInBounds j u))) (w.setCell ⟨g,j,none⟩ u):=⟨(h.1.setAt k hk j u).1,h.2.trans (h.1.setAt k hk j u).2⟩
theorem SW.newCell (h:SW b w0 l w) (t:TypeId) (cs:Array Value):SW b w0 (cellOb w.heap.size t cs::l) (w.alloc (.cells cs t)):=⟨(h.1.newCell t cs).1,h.2.trans (h.1.newCell t cs).2⟩
theorem SW.newRow (h:SW b w0 l w) (e:TypeId) (size:Nat):SW b w0 (rowOb e size (.slice none 0 0) 0 []::l) w:=by
 refine ⟨⟨h.1.base,fun y hy=>?_,fun y hy i hi=>?_,fun y hy i hi=>?_,List.pairwise_cons.2 ⟨fun y hy=>⟨fun i hi=>?_,fun i hi hi'=>?_⟩,h.1.apart⟩⟩,h.2⟩
 · rcases List.mem_cons.1 hy with rfl | hy
   · exact World.ownsRow_nil _ _ _ _
   exact h.1.holds y hy
 · rcases List.mem_cons.1 hy with rfl | hy
   · cases hi
   exact h.1.own y hy i hi
 · rcases List.mem_cons.1 hy with rfl | hy
   · cases hi
   exact h.1.rd y hy i hi
 · cases hi
 cases hi'
theorem Sep.row {e:TypeId} {size n n':Nat} {v v':Value} {xs xs':List Value} (h:Sep b w l) (k:Nat) (hk:l[k]? =some (rowOb e size v n xs)) (h2:w'.ownsRow 0 e size v' n' xs') (hg:w.grownBy w' v.ownBlock) (hv:v'.ownBlock=v.ownBlock∨v'.ownBlock=some w.heap.size):
 Sep b w' (l.set k (rowOb e size v' n' xs'))/\Below b w w':=by
 refine h.stepAt k hk ⟨hg.os,hg.tape,hg.output,hg.size,fun i hi hn=>hg.block i hi (fun e=>hn e.symm),fun i hi=>?_⟩ (fun i hi=>hi.elim) h2 (fun i hi=>?_)
 · rcases hv with hv | hv
   · exact .inl (hv.symm.trans hi)
   have hi':v'.ownBlock=some i:=hi;rw [hv] at hi';injection hi' with hi';exact .inr (by omega)
 rcases hi with hi | hi
 · exact (h2.lt i hi).2
 exact hi.elim
theorem SW.row {e:TypeId} {size n n':Nat} {v v':Value} {xs xs':List Value} (h:SW b w0 l w) (k:Nat) (hk:l[k]? =some (rowOb e size v n xs)) (h2:w'.ownsRow 0 e size v' n' xs') (hg:w.grownBy w' v.ownBlock) (hv:v'.ownBlock=v.ownBlock∨v'.ownBlock=some w.heap.size):
 SW b w0 (l.set k (rowOb e size v' n' xs')) w':=⟨(h.1.row k hk h2 hg hv).1,h.2.trans (h.1.row k hk h2 hg hv).2⟩
theorem range_filterMap {α:Type} (l:List α):(List.range l.length).filterMap (fun i=>l[i]?)=l:=by
 induction l with
 | nil=>rfl
 | cons x l ih=>
  rw [List.length_cons,List.range_succ_eq_map,List.filterMap_cons];simp only [List.getElem?_cons_zero,List.filterMap_map]
  have e:((fun i=>(x::l)[i]?) ∘ Nat.succ)=(fun i=>l[i]?):=by
   funext i
   simp
  rw [e,ih]
theorem SW.reorder (h:SW b w0 l w) (idx:List Nat) {n:Nat} (hl:l.length=n) (hp:idx.Perm (List.range n)):SW b w0 (idx.filterMap (fun i=>l[i]?)) w:=by
 subst hl;refine ⟨h.1.perm ?_,h.2⟩;have:=hp.filterMap (fun i=>l[i]?);rw [range_filterMap] at this;exact this
theorem SW.front {pre t:List Ob} (h:SW b w0 (pre++t) w) (idx:List Nat) {n:Nat} (hl:pre.length=n) (hp:idx.Perm (List.range n)):SW b w0 (idx.filterMap (fun i=>pre[i]?)++t) w:=by
 subst hl;refine ⟨h.1.perm (List.Perm.append_right t ?_),h.2⟩;have:=hp.filterMap (fun i=>pre[i]?);rw [range_filterMap] at this;exact this
theorem SW.newCellAt (h:SW b w0 l w) (t:TypeId) (cs:Array Value) {H:Nat} (hH:w.heap.size=H):SW b w0 (cellOb H t cs::l) (w.alloc (.cells cs t)):=hH ▸ h.newCell t cs
theorem Sep.join {l':List Ob} (h:Sep b w l) (hb:Below w.heap.size w w') (h':Sep w.heap.size w' l') (hr:∀ o∈l',∀ i,o.rd i->w.heap.size<=i):Sep b w' (l'++l):=by
 have h1:=h.on hb;refine ⟨h1.base,fun y hy=>?_,fun y hy i hi=>?_,fun y hy i hi=>?_,List.pairwise_append.2 ⟨h'.apart,h.apart,fun x hx y hy=>⟨fun i hi=>⟨fun h2=>?_,fun h2=>?_⟩,fun i hi hi'=>?_⟩⟩⟩
 · rcases List.mem_append.1 hy with hy | hy
   · exact h'.holds y hy
   exact h1.holds y hy
 · rcases List.mem_append.1 hy with hy | hy
   · have:=h'.own y hy i hi;exact ⟨Nat.le_trans h.base this.1,this.2⟩
   exact h1.own y hy i hi
 · rcases List.mem_append.1 hy with hy | hy
   · exact h'.rd y hy i hi
   exact h1.rd y hy i hi
 · have:=(h'.own x hx i hi).1;have:=(h.own y hy i h2).2;omega
 · have:=(h'.own x hx i hi).1;have:=h.rd y hy i h2;omega
 have:=hr x hx i hi';have:=(h.own y hy i hi).2;omega
theorem step_rowS {ops:Array Oper} {o:Oper} {a:Act} {K:Act->World->Prop} {Q:Exit->Act->World->Prop} {E:Prop} {t e:TypeId} {i:TypeInfo} {z:Value} {size bytes:Nat} (hS:SW b w0 l w) (k:Nat) {v:Value} {n:Nat} {xs:List Value} (hk:l[k]? =some (rowOb e size v n xs))
 (hgd:o.guard=none) (s x:Operand) (ho:o.op= .call { callee:=.builtin .append,args:= #[s,x],argTypes:= #[t,t] })
 (ht:Tryz.prog.underlying t=some (.slice e)) (hi:Tryz.prog.info? e=some i) (hz:i.zero=some z) (hsize:i.size=size) (hby:i.bytes=bytes) (hzs:z.cells.size=size) (hsz:0<size)
 (hs:a.eval s=v) (ad:Addr) (c:Nat) (news:List Value) (hx:a.eval x= .slice (some ad) 1 c) (hl:news.length=size) (hnews:∀ j u,news[j]? =some u->w.cell? (ad.add j)=some u) (h1:∀ u∈news,u.oneCell'=true)
 (h63:n+1<=maxLen) (hbytes:(n+1)*bytes<=140737488355328)
 (h:∀ v' w',SW b w0 (l.set k (rowOb e size v' (n+1) (xs++news))) w'->K (a.put o.dst v') w'):
 if Region.wanted o (yielded ops a.tmps)=true then Oper.wp Tryz.prog o a w K Q else E:=
 step_append_row hgd s x t ho e i z size bytes ht hi hz hsize hby hzs hsz v n xs hs (hS.get k hk) ad 1 c news hx (by rw [hl,Nat.one_mul]) hnews h1 (by omega) h63 hbytes (fun v' w' h2 hg hv=>h v' w' (hS.row k hk h2 hg hv))
theorem wpList_rowS {ops:Array Oper} {o:Oper} {rest:List Oper} {a:Act} {Q:Exit->Act->World->Prop} {t e:TypeId} {i:TypeInfo} {z:Value} {size bytes:Nat} (hS:SW b w0 l w) (k:Nat) {v:Value} {n:Nat} {xs:List Value} (hk:l[k]? =some (rowOb e size v n xs))
 (hgd:o.guard=none) (s x:Operand) (ho:o.op= .call { callee:=.builtin .append,args:= #[s,x],argTypes:= #[t,t] })
 (ht:Tryz.prog.underlying t=some (.slice e)) (hi:Tryz.prog.info? e=some i) (hz:i.zero=some z) (hsize:i.size=size) (hby:i.bytes=bytes) (hzs:z.cells.size=size) (hsz:0<size)
 (hs:a.eval s=v) (ad:Addr) (c:Nat) (news:List Value) (hx:a.eval x= .slice (some ad) 1 c) (hl:news.length=size) (hnews:∀ j u,news[j]? =some u->w.cell? (ad.add j)=some u) (h1:∀ u∈news,u.oneCell'=true)
 (h63:n+1<=maxLen) (hbytes:(n+1)*bytes<=140737488355328)
 (h:∀ v' w',SW b w0 (l.set k (rowOb e size v' (n+1) (xs++news))) w'->wpList Tryz.prog ops Q rest (a.put o.dst v') w'):
 wpList Tryz.prog ops Q (o::rest) a w:=by
 have:=step_rowS (ops:=ops) (Q:=Q) (E:=False) (K:=wpList Tryz.prog ops Q rest) hS k hk hgd s x ho ht hi hz hsize hby hzs hsz hs ad c news hx hl hnews h1 h63 hbytes h;have hw:Region.wanted o (yielded ops a.tmps)=true:=by simp [Region.wanted,hgd]
 rw [if_pos hw] at this;unfold wpList
 first
  | (rw [if_pos hw];exact .inl this)
  | (simp only [hw,if_true];exact .inl this)
  | (simp only [hw,if_true];exact this)
theorem own_one {e:TypeId} {v:Value} {u:Value} (h:w.ownsRow 0 e 1 v 1 [u]):∃ g c,v= .slice (some ⟨g,0,none⟩) 1 c/\w.cell? ⟨g,0,none⟩=some u/\g<w.heap.size:=by
 rcases h.2 with ⟨hv,hx⟩ | ⟨g,cap,cur,hv,_,hh,hc1,hcs,hcs2,htk⟩
 · cases hx
 refine ⟨g,cap,hv,?_,(h.lt g (by rw [hv];rfl)).2⟩;have h0:(cur.toList.take (1*1))[0]? =some u:=by rw [htk];rfl
 rw [List.getElem?_take_of_lt (by omega),Array.getElem?_toList] at h0;have hi:IsB w g e cur:=hh;rw [hi.cell];exact h0
theorem own_some {e:TypeId} {size n:Nat} {v:Value} {xs:List Value} (h:w.ownsRow 0 e size v n xs) (hx:n≠0):∃ g c,v= .slice (some ⟨g,0,none⟩) n c:=by
 rcases h.2 with ⟨_,h2⟩ | ⟨g,cap,cur,hv,_⟩
 · exact absurd h2 hx
 exact ⟨g,cap,hv⟩
theorem info214:(Tryz.prog.info? 214).map (fun i=>(i.zero,i.size,i.bytes))=some (some (.pointer none),1,8):=by kernel_rfl
end
end
section
open Go.RowKit Go.MapKept Go.ChangeMaps
def bufOb (d:BD) (bs:List UInt8):Ob where
 own:=fun i=>blk d=some i
 rd:=fun _=>False
 holds:=fun w=>RB w d bs
 stable:=fun w w' h hs hk=>by
  have hc:Ch w w' (fun i=>¬ blk d=some i) []:=⟨hs.1,hs.2.1,hs.2.2.1,hs.2.2.2,fun i _ hn _=>hk i (.inl (Classical.not_not.1 hn)),by simp⟩;exact h.ch hc (fun g hg hn=>hn hg) (by simp)
def rsOb (A:Option Addr) (bs:List UInt8):Ob where
 own:=fun _=>False
 rd:=fun i=>0<bs.length/\∃ o,A=some ⟨i,o,none⟩
 holds:=fun w=>RS w A bs
 stable:=fun w w' h hs hk=>by
  refine ⟨h.1,fun ad e=>?_⟩;obtain ⟨g,o,rfl,hc⟩:=h.2 ad e;refine ⟨g,o,rfl,fun j hj=>?_⟩;have h2:=hk g (.inr ⟨by omega,o,e⟩);rw [<- hc j hj];simp [World.cell?, h2]
theorem AppB.fr {w w':World} {d d':BD} {bs bs':List UInt8} (h:AppB w d bs' d' w') (hr:RB w d bs):Fr w w' (bufOb d bs).own (bufOb d' bs').own:=by
 obtain ⟨_,⟨e1,_,_,hc⟩ | ⟨H,e1,e2,hb⟩⟩:=h
 · refine ⟨hc.os,hc.tape,hc.output,hc.size,fun i hi hn=>hc.block i hi (fun h=>h) (fun p hp he=>hn ?_),fun i hi=> .inl ?_⟩
   · obtain ⟨A,n,c⟩:=d;cases A with
     | none=>simp [room] at hp
     | some ad=>
      obtain ⟨g,cur,rfl,_⟩:=hr.2.2.2 ad rfl;simp [room] at hp;obtain ⟨_,rfl⟩:=hp;show blk _=some i;rw [<- he];rfl
   show blk d=some i;rw [<- e1];exact hi
 exact Fr.new hb (fun i hi=> .inr (by
  have h1:blk d'=some i:=hi;rw [e1] at h1;injection h1 with h1;omega))
theorem Sep.app {b:Nat} {w w':World} {l:List Ob} (h:Sep b w l) (k:Nat) {d d':BD} {bs bs':List UInt8} (hk:l[k]? =some (bufOb d bs)) (ha:AppB w d bs' d' w'):Sep b w' (l.set k (bufOb d' bs'))/\Below b w w':=by
 have hr:RB w d bs:=h.get hk;refine h.stepAt k hk (ha.fr hr) (fun i hi=>hi.elim) ha.1 (fun i hi=>?_);rcases hi with hi | hi
 · exact ha.1.lt hi
 exact hi.elim
theorem Sep.note {b:Nat} {w w':World} {l:List Ob} (h:Sep b w l) (k:Nat) {cm:Nat} {C:Chs} (hk:l[k]? =some (chOb cm C)) {i:ID} {o:Nat} (hm:MapIs okID vID vPl w' cm (setL C i (.at o))) (hg:w.grownBy w' (some cm)):Sep b w' (l.set k (chOb cm (setL C i (.at o))))/\Below b w w':=by
 have hh:=h.get hk;have hmem:∀ c∈setL C i (.at o),c=(i,.at o)∨c∈C:=(setL_pairwise (R:=fun _ _=>True) hh.1.nodup (List.pairwise_of_forall (by simp)) i (Pl.at o) (by simp) (by simp)).2
 have hpend:∀ id d' bs',(id,Pl.pend d' bs')∈setL C i (.at o)->(id,Pl.pend d' bs')∈C:=by
  intro id d' bs' hc;rcases hmem _ hc with e | e
  · injection e with e1 e2;cases e2
  exact e
 refine h.stepAt k hk (Fr.grown hg rfl (fun _ hi=> .inl hi)) (fun j hj=>?_) ⟨hm,fun id d' bs' hc=>?_⟩ (fun j hj=>?_)
 · obtain ⟨id,d',bs',hc,hbk⟩:=hj;exact .inr (.inl ⟨id,d',bs',hpend _ _ _ hc,hbk⟩)
 · have:=hh.2 id d' bs' (hpend _ _ _ hc);exact ⟨this.1.gone hh.1 hg,this.2⟩
 rcases hj with hj | ⟨id,d',bs',hc,hbk⟩
 · have e:j=cm:=hj;rw [e];exact hm.lt
 exact Nat.lt_of_lt_of_le ((hh.2 id d' bs' (hpend _ _ _ hc)).1.lt hbk) hg.size
end
end Go.Proofs.YteabgcollokgjaaGreatDoor

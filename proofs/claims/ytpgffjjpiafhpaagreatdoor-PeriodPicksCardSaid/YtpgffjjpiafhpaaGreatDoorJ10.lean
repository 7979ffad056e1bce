/- Parts of a proof: Rs Rq Ra. -/
import Derived.Laws.AppendOwnNone
import Derived.Test.YtpgffjjpiafhpaaGreatDoorJ09
import Derived.Test.YtpgffjjpiafhpaaGreatDoorJ08
set_option linter.unusedVariables false
set_option linter.unusedSimpArgs false
set_option maxRecDepth 100000
set_option maxHeartbeats 8000000
namespace Go.Proofs.YtpgffjjpiafhpaaGreatDoor
open Go.RowKit Tryz
section
variable {P:Program} (w:World)
theorem yeR (t ty e:TypeId) (i:TypeInfo) (z:Value) (size bytes:Nat) (ht:P.underlying t=some (.slice e)) (hi:P.info? e=some i) (hz:i.zero=some z)
  (hsize:i.size=size) (hby:i.bytes=bytes) (hzs:z.cells.size=size) (hsz:0<size)
  (v:Value) (n:Nat) (xs:List Value) (hown:w.ownsRow 0 e size v n xs)
  (a:Addr) (m c:Nat) (news:List Value) (hl:news.length=m*size) (hnews:∀ j u,news[j]? = some u→w.cell? (a.add j)=some u) (h1:∀ u∈news,u.oneCell'=true)
  (hm:0<n+m) (h63:n+m≤maxLen) (hbytes:(n+m)*bytes≤140737488355328) :
  ∃ g cap w',(Builtin.append_ #[t,t] ty #[v,.slice (some a) m c]).run P w = .ok (.slice (some ⟨g,0,none⟩) (n+m) cap) w'∧w'.ownsRow 0 e size (.slice (some ⟨g,0,none⟩) (n+m) cap) (n+m) (xs++news)∧w.grownBy w' v.ownBlock ∧
   (some g=v.ownBlock∨w.heap.size≤g)∧w.drawn≤w'.drawn:=by
 obtain⟨v',w',hr,ho,hg,_⟩:=run_append_own (P:=P) w 0 t ty e i z size bytes ht hi hz hsize hby hzs hsz v n xs hown a m c news hl hnews h1 h63 hbytes (Nat.zero_le _);subst hsize;subst hby;have hsmall:n+m≤9223372036854775807:=by simp only [maxLen] at h63;omega
 have fin : ∀ g cap w'', (Builtin.append_ #[t, t] ty #[v, .slice (some a) m c]).run P w = .ok (.slice (some ⟨g, 0, none⟩) (n + m) cap) w'' → (some g = v.ownBlock ∨ w.heap.size ≤ g) → w.drawn ≤ w''.drawn →
   ∃ g cap w',(Builtin.append_ #[t,t] ty #[v,.slice (some a) m c]).run P w = .ok (.slice (some ⟨g,0,none⟩) (n+m) cap) w'∧w'.ownsRow 0 e i.size (.slice (some ⟨g,0,none⟩) (n+m) cap) (n+m) (xs++news)∧w.grownBy w' v.ownBlock ∧
   (some g=v.ownBlock∨w.heap.size≤g)∧w.drawn≤w'.drawn:=by
  intro g cap w'' h1 h2 h2d;have h3:=h1;rw [hr] at h3;injection h3 with h3 h4;subst h3;subst h4;exact ⟨g,cap,_,h1,ho,hg,h2,h2d⟩
 rcases hown.2 with ⟨rfl,rfl⟩|⟨g,cap,cur,rfl,hbg,hgg,hnc,hcm,hcs,htake⟩
 ·have hx:xs=[]:=List.eq_nil_of_length_eq_zero (by simpa using hown.1)
  subst hx;have hr2:=run_append_nil (P:=P) w t ty e i z ht hi hz a m c news hl hnews (by omega) (by omega) (by have hb:=hbytes;simp only [Nat.zero_add] at hb;omega);exact fin _ _ _ (by rw [hr2,Nat.zero_add]) (.inr (Nat.le_refl _)) (Nat.le_succ _)
 by_cases hroom:n+m≤cap
 ·have hfit:n*i.size+news.length≤cur.size:=by rw [hl,hcs,← Nat.add_mul];exact Nat.mul_le_mul_right _ hroom
  exact fin _ _ _ (run_append_room (P:=P) w t ty e i ht hi g n cap cur hgg a m c news hl hnews h1 hroom hfit) (.inl rfl) (Nat.le_refl _)
 have holds:∀ j u,xs[j]? = some u→w.cell? ((⟨g,0,none⟩:Addr).add j)=some u:=hown.cells (g:=g) rfl;exact fin _ _ _ (run_append_grow (P:=P) w t ty e i z ht hi hz ⟨g,0,none⟩ n cap xs hown.1 holds a m c news hl hnews (by omega) (by omega) (growslice_fits (by omega) hbytes)) (.inr (Nat.le_refl _)) (Nat.le_succ _)
theorem ydM {ops:Array Oper} {rest:List Oper} {o:Oper} {a:Act} {Q:Exit→Act→World→Prop} (hgd:o.guard=none) (s x:Operand) (t:TypeId)
  (ho:o.op = .call { callee:=.builtin .append,args:=#[s,x],argTypes:=#[t,t] })
  (e:TypeId) (i:TypeInfo) (z:Value) (bytes:Nat) (ht:P.underlying t=some (.slice e)) (hi:P.info? e=some i) (hz:i.zero=some z)
  (hsize:i.size=1) (hby:i.bytes=bytes) (hzs:z.cells.size=1)
  (v:Value) (n:Nat) (xs:List Value) (hs:a.eval s=v) (hown:w.ownsRow 0 e 1 v n xs) (hn:0<n)
  (y:Value) (news:List Value) (hx:a.eval x=y) (hy:RowR w y news) (h1:∀ u∈news,u.oneCell'=true)
  (h63:n+news.length≤maxLen) (hbytes:(n+news.length)*bytes≤140737488355328)
  (h:∀ v' w',w'.ownsRow 0 e 1 v' (n+news.length) (xs++news)→w.grownBy w' v.ownBlock→w.drawn≤w'.drawn→wpList P ops Q rest (a.put o.dst v') w'):wpList P ops Q (o :: rest) a w:=by
 refine wpList_plain hgd fun K hK=>?_
 have ⟨v',w',hr,h2,h3,h5⟩:∃ v' w',(Builtin.append_ #[t,t] o.type #[v,y]).run P w = .ok v' w'∧w'.ownsRow 0 e 1 v' (n+news.length) (xs++news)∧w.grownBy w' v.ownBlock∧w.drawn≤w'.drawn:=by
  rcases hy with ⟨rfl,rfl⟩|⟨g,b,c,rfl,hg,hc⟩
  ·exact ⟨v,w,run_append_owned_none (P:=P) (w:=w) 0 t o.type e i 1 ht hi v n xs hown,by simpa using hown,⟨rfl,rfl,rfl,Nat.le_refl _,fun _ _ _=>rfl⟩,Nat.le_refl _⟩
  obtain⟨g',cap,w',hr,ho,hg',_,hd⟩:=yeR (P:=P) w t o.type e i z 1 bytes ht hi hz hsize hby hzs (by decide) v n xs hown ⟨g,b,none⟩ news.length c news (by simp) (fun j u hj=>by
   rw [Addr.add_lit];exact hc j u hj) h1 (by omega) h63 hbytes
  exact ⟨_,w',hr,ho,hg',hd⟩
 unfold Oper.wp execOp;simp only [ho,resolve,invoke,builtin,Sem.run_bind,Sem.run_pure,Result.andThen_ok,List.map_toArray,List.map_cons,List.map_nil,hs,hx,hr];exact hK _ _ (h v' w' h2 h3 h5)
end
theorem ints_one (l:List Nat):∀ u∈ints l,u.oneCell'=true:=by
 intro u hu;obtain⟨x,_,hx⟩:=List.mem_map.1 hu;rw [← hx];rfl
theorem yhK {w:World} {e:TypeId} {size n:Nat} {v:Value} {xs:List Value} (h:w.ownsRow 0 e size v n xs):CapOk v:=by
 intro a m c e;rcases h.2 with ⟨hv,h0⟩|⟨g,cap,cur,hv,_,_,hn,_⟩
 ·rw [hv] at e;injection e with e1 e2 e3;omega
 rw [hv] at e;injection e with e1 e2 e3;omega
theorem dv_rem {A B i:Nat} (hB:0<B):A / 256 ^ i % B=(256*(A / 256 ^ (i+1) % B)+A / 256 ^ i % 256) % B:=by
 have e:A / 256 ^ i=256*(A / 256 ^ (i+1))+A / 256 ^ i % 256:=by rw [Nat.pow_succ,← Nat.div_div_eq_div_mul,Nat.div_add_mod]
 have h:=Nat.div_add_mod (A / 256 ^ (i+1)) B;generalize A / 256 ^ (i+1) / B=q at *;generalize A / 256 ^ (i+1) % B=r at *;rw [← h] at e;have e2:A / 256 ^ i=(256*r+A / 256 ^ i % 256)+B*(256*q):=by rw [Nat.mul_left_comm];omega
 generalize A / 256 ^ i % 256=d at *;rw [e2,Nat.add_mul_mod_self_left]
theorem dv_quo {A B i:Nat} (hB:0<B):A / B / 256 ^ i % 256=(256*(A / 256 ^ (i+1) % B)+A / 256 ^ i % 256) / B:=by
 have e:A / 256 ^ i=256*(A / 256 ^ (i+1))+A / 256 ^ i % 256:=by rw [Nat.pow_succ,← Nat.div_div_eq_div_mul,Nat.div_add_mod]
 have h:=Nat.div_add_mod (A / 256 ^ (i+1)) B;have h9:=Nat.mod_lt (A / 256 ^ (i+1)) hB;have d9:=Nat.mod_lt (A / 256 ^ i) (show 0<256 by decide)
 rw [Nat.div_div_eq_div_mul,Nat.mul_comm B,← Nat.div_div_eq_div_mul];generalize A / 256 ^ (i+1) / B=q at *;generalize A / 256 ^ (i+1) % B=r at *;rw [← h] at e;have e2:A / 256 ^ i=(256*r+A / 256 ^ i % 256)+B*(256*q):=by rw [Nat.mul_left_comm];omega
 generalize A / 256 ^ i % 256=d at *;rw [e2,Nat.add_mul_div_left _ _ hB]
 have:(256*r+d) / B<256:=by
  rw [Nat.div_lt_iff_lt_mul hB];have:=Nat.mul_le_mul_left 256 (show r+1≤B from h9)
  omega
 generalize (256*r+d) / B=x at *;omega
theorem dv_bound {A B i:Nat} (hB:0<B):256*(A / 256 ^ (i+1) % B)+A / 256 ^ i % 256<256*B:=by
 have h9:=Nat.mod_lt (A / 256 ^ (i+1)) hB;have d9:=Nat.mod_lt (A / 256 ^ i) (show 0<256 by decide)
 omega
theorem dv_end {R B t r:Nat} (hB:0<B) (h:r+t*B=R) (hr:r<B):R / B=t∧R % B=r:=by
 have e:R=r+B*t:=by rw [Nat.mul_comm];omega
 constructor
 ·rw [e,Nat.add_mul_div_left _ _ hB,Nat.div_eq_of_lt hr];omega
 rw [e,Nat.add_mul_mod_self_left,Nat.mod_eq_of_lt hr]
theorem dv_room {R B t s r:Nat} (hB:0<B) (h:r+t*B=R) (hR:R<256*B) (hs:s*B≤r):t+s≤255:=by
 have h1:(t+s)*B<256*B:=by rw [Nat.add_mul];omega
 have:=Nat.lt_of_mul_lt_mul_right h1;omega
theorem dv_last {R B r:Nat} (h:r+255*B=R) (hR:R<256*B):r<B:=by omega
theorem mixd_set0 {L i Q:Nat}:(mixd 256 L (i+1) Q 0).set i 0=mixd 256 L (i+1) Q 0:=by
 apply List.ext_getElem
 ·simp
 intro j h1 h2;rw [List.getElem_set];by_cases e:i=j
 ·subst e;simp [mixd]
 rw [if_neg e]
theorem one_c (w:World):Calls prog 152 #[] w fun e w'=>e = .returned (zv 1)∧Keep [] w w':=by
 have Hm:=jX (FromInt_c 1 (by decide) (by decide));unfold zv at Hm ⊢;generalize sgB 1=nr at *;generalize mgS 1=sr at *;go_enter func152,ntmps152
 go_wp2_with fail;obtain⟨W,ga,hW,ega,Bga,hga,hgW,HkW⟩:=al1h w (.cells #[.bool false,.string ⟨#[]⟩] 26);rw [← hW];try rw [ega]
 clear hW ega;refine (Hm.out W).mono ?_;rintro e wz ⟨rfl,hk_wz⟩;dsimp only;clear Hm;replace Bga:=jH hk_wz Bga;replace HkW:=jX (HkW.out.tz hk_wz);clear hk_wz;obtain⟨pga,fga,lga⟩:=jQ Bga;go_wp2_with fail;refine bodyPost_ret (v:=.agg #[.bool nr,.string sr]) ?_ rfl ⟨rfl,by repeat (first|(with_reducible exact HkW.out)|(refine Keep.sP ?_ _ _ _ (by omega))|(refine Keep.aP ?_ _)|(refine Keep.dP ?_))⟩;rw [yac rfl];go_simp
theorem ydh (a b:Int) (ha:Fit 100000000000 a) (hb:Fit 100000000000 b) (h0:0<b) (w:World) :
  Calls prog 188 #[zv a,zv b] w fun e w'=>e = .returned (zv (a / b))∧Keep [] w w':=by
 have Hm:=jX (DivMod_c a b ha hb h0);unfold zv at Hm ⊢;generalize sgB (a / b)=nr at *;generalize mgS (a / b)=sr at *;generalize sgB (a % b)=nr2 at *;generalize mgS (a % b)=sr2 at *;generalize sgB a=na at *;generalize sgB b=nb at *;generalize mgS a=sa at *;generalize mgS b=sb at *;clear ha hb h0;go_enter func188,ntmps188
 go_wp2_with fail;obtain⟨W,ga,gb,gc,hW,ega,egb,egc,Bga,Bgb,Bgc,hga,hgb,hgc,hgW,HkW⟩:=al3h w (.cells #[.bool na,.string sa] 26) (.cells #[.bool nb,.string sb] 26) (.cells #[.bool false,.string ⟨#[]⟩] 26);rw [← hW];try rw [egc]
 try rw [egb]
 try rw [ega]
 clear hW ega egb egc;refine (Hm.out W).mono ?_;rintro e wz ⟨rfl,hk_wz⟩;dsimp only;clear Hm;replace Bga:=jH hk_wz Bga;replace Bgb:=jH hk_wz Bgb;replace Bgc:=jH hk_wz Bgc;replace HkW:=jX (HkW.out.tz hk_wz);clear hk_wz;obtain⟨pgc,fgc,lgc⟩:=jQ Bgc;go_wp2_with fail;refine bodyPost_ret (v:=.agg #[.bool nr,.string sr]) ?_ rfl ⟨rfl,by repeat (first|(with_reducible exact HkW.out)|(refine Keep.sP ?_ _ _ _ (by omega))|(refine Keep.aP ?_ _)|(refine Keep.dP ?_))⟩;rw [yac rfl];go_simp
theorem eqZ_str (s t:ByteArray) (w:World):(binOp .eql 26 (.agg #[.bool false,.string s]) (.agg #[.bool false,.string t])).run prog w = .ok (.bool (decide (s=t))) w:=by
 rw [run_eql_struct,show (10000:Nat)=9998+2 from rfl,ygz];simp [Result.andThen]
theorem Den_c (q:Rat) (w:World) :
  Calls prog 166 #[rv q] w fun e w'=>e = .returned (zv (q.den:Int))∧Keep [] w w':=by
 have hgd:=eqZ_g;unfold rv;by_cases h1:q.den=1
 ·rw [ycM h1,h1]
  have Hm:=jX one_c;have heq:∀ w,(binOp .eql 26 (.agg #[.bool false,.string ⟨#[]⟩]) (.agg #[.bool false,.string ⟨#[]⟩])).run prog w = .ok (.bool true) w:=fun w=>by rw [eqZ_str];simp
  rw [show (((1:Nat):Int))=1 from rfl]
  unfold zv at Hm ⊢;generalize sgB 1=nr at *;generalize mgS 1=sr at *;generalize sgB q.num=na at *;generalize mgS q.num=sa at *;clear h1;go_enter func166,ntmps166
  go_wp2_with fail;obtain⟨W,ga,gb,hW,ega,egb,Bga,Bgb,hga,hgb,hgW,HkW⟩:=al2h w (.cells #[.bool na,.string sa,.bool false,.string ⟨#[]⟩] 28) (.cells #[.bool false,.string ⟨#[]⟩] 26);rw [← hW];try rw [egb]
  try rw [ega]
  clear hW ega egb;refine (Hm.out W).mono ?_;rintro e wz ⟨rfl,hk_wz⟩;dsimp only;clear Hm;replace Bga:=jH hk_wz Bga;replace Bgb:=jH hk_wz Bgb;replace HkW:=jX (HkW.out.tz hk_wz);clear hk_wz;obtain⟨pgb,fgb,lgb⟩:=jQ Bgb;go_wp2_with fail;refine bodyPost_ret (v:=.agg #[.bool nr,.string sr]) ?_ rfl ⟨rfl,by repeat (first|(with_reducible exact HkW.out)|(refine Keep.sP ?_ _ _ _ (by omega))|(refine Keep.aP ?_ _)|(refine Keep.dP ?_))⟩;rw [yac rfl];go_simp
 rw [yel h1];have hne:magS q.den≠⟨#[]⟩:=fun h=>q.den_nz (ybp.1 h);have heq:∀ w,(binOp .eql 26 (.agg #[.bool false,.string (magS q.den)]) (.agg #[.bool false,.string ⟨#[]⟩])).run prog w = .ok (.bool false) w:=fun w=>by rw [eqZ_str];simp [hne]
 unfold zv;rw [yfE,yfG];generalize magS q.den=sr at *;generalize sgB q.num=na at *;generalize mgS q.num=sa at *;clear h1 hne;go_enter func166,ntmps166
 go_wp2_with fail;have HkW:=jX (Keep.refl [] w);refine bodyPost_ret (v:=.agg #[.bool false,.string sr]) ?_ rfl ⟨rfl,by repeat (first|(with_reducible exact HkW.out)|(refine Keep.sP ?_ _ _ _ (by omega))|(refine Keep.aP ?_ _)|(refine Keep.dP ?_))⟩;rw [yac rfl];go_simp
theorem ydt (a b:Int) (ha:Fit 100000000000 a) (hb:Fit 100000000000 b) (h0:0<b) (w:World) :
  Calls prog 155 #[zv a,zv b] w fun e w'=>e = .returned (rv (Rat.divInt a b))∧Keep [] w w':=by
 have hgd:=eqZ_g;have Hs:=jX (Sign_c b);rw [show zsgn b=1 by unfold zsgn;rw [if_neg (by omega),if_neg (by omega)]] at Hs
 have hgp:0<Int.gcd a b:=Int.gcd_pos_of_ne_zero_right _ (by omega)
 have hgf:Fit 100000000000 (Int.gcd a b:Nat):=by
  refine hb.le ?_;rw [Int.natAbs_natCast];exact Nat.le_of_dvd (by omega) (Int.gcd_dvd_natAbs_right a b)
 have Hg:=jX (Gcd_c a b ha hb);have Hq1:=jX (ydh a (Int.gcd a b:Nat) ha hgf (by omega));have Hq2:=jX (ydh b (Int.gcd a b:Nat) hb hgf (by omega));have Hone:=jX one_c
 have hn:(Rat.divInt a b).num=a / (Int.gcd a b:Nat):=by
  rw [Rat.num_divInt,Int.sign_eq_one_of_pos h0,Int.one_mul,Int.gcd_comm]
 have hd:(((Rat.divInt a b).den:Nat):Int)=b / (Int.gcd a b:Nat):=by
  rw [Rat.den_divInt,if_neg (by omega),Int.gcd_comm];push_cast
  rw [Int.natAbs_of_nonneg (by omega)]
 have hdec:=eqZ_run (b / (Int.gcd a b:Nat)) 1;have hdn:∀ n:Nat,(n:Int)=b / (Int.gcd a b:Nat)→sgB (b / (Int.gcd a b:Nat))=false∧mgS (b / (Int.gcd a b:Nat))=magS n:=fun n e=>by rw [← e,yfG,yfE];exact ⟨rfl,rfl⟩
 obtain⟨hd1,hd2⟩:=hdn _ hd;have hd3:b / (Int.gcd a b:Nat)=1↔(Rat.divInt a b).den=1:=by rw [← hd];omega
 unfold zv at Hs Hg Hq1 Hq2 Hone;unfold rv zv;rw [hn];have hgs:sgB (Int.gcd a b:Nat)=false:=yfG _;simp only [hgs] at Hg Hq1 Hq2;generalize mgS (Int.gcd a b:Nat)=sg at *;generalize hne:a / ((Int.gcd a b:Nat):Int)=n' at *;generalize hde:b / ((Int.gcd a b:Nat):Int)=d' at *;simp only [hd1,hd2] at Hq2 hdec;generalize sgB a=na at *;generalize sgB b=nb at *;generalize mgS a=sa at *;generalize mgS b=sb at *;generalize sgB n'=nq at *;generalize mgS n'=sq at *;generalize sgB 1=n1 at *;generalize mgS 1=s1 at *;clear ha hb h0 hgf hgp hn hd hdn hd1 hgs hne hde hd2;by_cases h1:(Rat.divInt a b).den=1
 ·rw [ycM h1]
  have hdt:decide (d'=1)=true:=by simpa using hd3.2 h1
  rw [hdt] at hdec;generalize magS (Rat.divInt a b).den=sd at *;clear hd3 h1 hdt;go_enter func155,ntmps155
  go_wp2_with fail;obtain⟨W,ga,gb,gc,hW,ega,egb,egc,Bga,Bgb,Bgc,hga,hgb,hgc,hgW,HkW⟩:=al3h w (.cells #[.bool na,.string sa] 26) (.cells #[.bool nb,.string sb] 26) (.cells #[.bool false,.string ⟨#[]⟩,.bool false,.string ⟨#[]⟩] 28);rw [← hW];try rw [egc]
  try rw [egb]
  try rw [ega]
  clear hW ega egb egc;refine (Hs.out W).mono ?_;rintro e w1 ⟨rfl,hk1⟩;dsimp only;clear Hs;replace Bga:=jH hk1 Bga;replace Bgb:=jH hk1 Bgb;replace Bgc:=jH hk1 Bgc;replace HkW:=jX (HkW.out.tz hk1);clear hk1;obtain⟨pga,fga,lga⟩:=jQ Bga;obtain⟨pgb,fgb,lgb⟩:=jQ Bgb;go_wp2_with fail;refine (Hg.out w1).mono ?_;rintro e w2 ⟨rfl,hk2⟩;dsimp only;clear Hg pga pgb fga fgb lga lgb;replace Bga:=jH hk2 Bga;replace Bgb:=jH hk2 Bgb;replace Bgc:=jH hk2 Bgc;replace HkW:=jX (HkW.out.tz hk2);clear hk2;obtain⟨pga,fga,lga⟩:=jQ Bga;obtain⟨pgb,fgb,lgb⟩:=jQ Bgb;obtain⟨pgc,fgc,lgc⟩:=jQ Bgc;go_wp2_with fail;obtain⟨W2,gd,hW2,egd,bgd,hgd,hgW2,hkW2⟩:=al1 w2 (.cells #[.bool false,.string sg] 26);rw [← hW2];try rw [egd]
  have Bgd:=jX bgd;clear hW2 egd bgd;clear pga pgb pgc fga fgb fgc lga lgb lgc;replace Bga:=jH hkW2 Bga;replace Bgb:=jH hkW2 Bgb;replace Bgc:=jH hkW2 Bgc;replace HkW:=jX (HkW.out.tz hkW2);clear hkW2;have kga:=yaf Bga.out;have kgb:=yaf Bgb.out;have kgd:=yaf Bgd.out;have Q1:Hid (∀ m:KW W2,Calls prog 188 #[.agg #[.bool na,.string sa],.agg #[.bool false,.string sg]] (Wk W2 m) fun e w'=>e = .returned (.agg #[.bool nq,.string sq])∧∃ m,w'=Wk W2 m):=fun m=>qk m (Hq1.out _);have Q2:Hid (∀ m:KW W2,Calls prog 188 #[.agg #[.bool nb,.string sb],.agg #[.bool false,.string sg]] (Wk W2 m) fun e w'=>e = .returned (.agg #[.bool false,.string sd])∧∃ m,w'=Wk W2 m):=fun m=>qk m (Hq2.out _);clear Hq1 Hq2;refine yai 6 (by kernel_rfl) (by kernel_rfl) ?_;simp only [List.take_succ_cons,List.take_zero,List.drop_succ_cons,List.drop_zero]
  repeat (first
   | go_big_quiet_skip
   | (go_big_quiet_want;go_big_quiet_op;first|go_big_quiet_on|go_big_quiet_call (first
    | (go_at_call 188;with_reducible exact (Q1).out _)|(go_at_call 188;with_reducible exact (Q2).out _))))
  refine wpQuiet_nil ?_;rintro wz ⟨⟨_,hk_wz⟩,rfl⟩;clear kga kgb kgd Q1 Q2;replace Bga:=jH hk_wz Bga;replace Bgb:=jH hk_wz Bgb;replace Bgc:=jH hk_wz Bgc;replace Bgd:=jH hk_wz Bgd;replace HkW:=jX (HkW.out.tz hk_wz);clear hk_wz;obtain⟨pga,fga,lga⟩:=jQ Bga;obtain⟨pgb,fgb,lgb⟩:=jQ Bgb;go_wp2_with fail;clear pga pgb fga fgb lga lgb;obtain⟨W2,hW2,bga,hkW2⟩:=st2 (x:=.bool nq) (y:=.string sq) (Bga.out:(wz).heap[ga]? = _);rw [← hW2];clear Bga;have Bga:=jX bga;clear hW2 bga;have B2gb:=jX (hkW2.heap Bgb.out (by simp;omega));clear Bgb;have Bgb:=B2gb;clear B2gb;have B2gc:=jX (hkW2.heap Bgc.out (by simp;omega));clear Bgc;have Bgc:=B2gc;clear B2gc;have HkW2:=jX (HkW.out.trans hkW2 (by simp;omega));clear HkW hkW2;have HkW:=HkW2;clear HkW2;obtain⟨W3,rfl⟩:∃ x:World,x=W2:=⟨_,rfl⟩;obtain⟨W2,hW2,bgb,hkW2⟩:=st2 (x:=.bool false) (y:=.string sd) (Bgb.out:(W3).heap[gb]? = _);rw [← hW2];clear Bgb;have Bgb:=jX bgb;clear hW2 bgb;have B2ga:=jX (hkW2.heap Bga.out (by simp;omega));clear Bga;have Bga:=B2ga;clear B2ga;have B2gc:=jX (hkW2.heap Bgc.out (by simp;omega));clear Bgc;have Bgc:=B2gc;clear B2gc;have HkW2:=jX (HkW.out.trans hkW2 (by simp;omega));clear HkW hkW2;have HkW:=HkW2;clear HkW2;have kgb:=yaf Bgb.out;have Q1:Hid (∀ m:KW W2,Calls prog 152 #[] (Wk W2 m) fun e w'=>e = .returned (.agg #[.bool n1,.string s1])∧∃ m,w'=Wk W2 m):=fun m=>qk m (Hone.out _);clear Hone;refine yad (by kernel_rfl) (by kernel_rfl) ?_
  repeat (first
   | go_big_quiet_skip
   | (go_big_quiet_want;go_big_quiet_op;first|go_big_quiet_on|go_big_quiet_call (first
    | (go_at_call 152;with_reducible exact (Q1).out _))))
  refine wpQuiet_nil ?_;rintro w9 ⟨⟨_,hk_w9⟩,rfl⟩;clear kgb Q1 Bgd;replace Bga:=jH hk_w9 Bga;replace Bgb:=jH hk_w9 Bgb;replace Bgc:=jH hk_w9 Bgc;replace HkW:=jX (HkW.out.tz hk_w9);clear hk_w9;obtain⟨pga,fga,lga⟩:=jQ Bga;obtain⟨pgb,fgb,lgb⟩:=jQ Bgb;obtain⟨pgc,fgc,lgc⟩:=jQ Bgc;go_wp2_with fail;refine bodyPost_ret (v:=.agg #[.bool nq,.string sq,.bool false,.string ⟨#[]⟩]) ?_ rfl ⟨rfl,by repeat (first|(with_reducible exact HkW.out)|(refine Keep.sP ?_ _ _ _ (by omega))|(refine Keep.aP ?_ _)|(refine Keep.dP ?_))⟩;rw [yac rfl];go_simp
 rw [yel h1]
 have hdt:decide (d'=1)=false:=by
  rw [decide_eq_false_iff_not];exact fun h=>h1 (hd3.1 h)
 rw [hdt] at hdec;generalize magS (Rat.divInt a b).den=sd at *;clear hd3 h1 hdt;go_enter func155,ntmps155
 go_wp2_with fail;obtain⟨W,ga,gb,gc,hW,ega,egb,egc,Bga,Bgb,Bgc,hga,hgb,hgc,hgW,HkW⟩:=al3h w (.cells #[.bool na,.string sa] 26) (.cells #[.bool nb,.string sb] 26) (.cells #[.bool false,.string ⟨#[]⟩,.bool false,.string ⟨#[]⟩] 28);rw [← hW];try rw [egc]
 try rw [egb]
 try rw [ega]
 clear hW ega egb egc;refine (Hs.out W).mono ?_;rintro e w1 ⟨rfl,hk1⟩;dsimp only;clear Hs;replace Bga:=jH hk1 Bga;replace Bgb:=jH hk1 Bgb;replace Bgc:=jH hk1 Bgc;replace HkW:=jX (HkW.out.tz hk1);clear hk1;obtain⟨pga,fga,lga⟩:=jQ Bga;obtain⟨pgb,fgb,lgb⟩:=jQ Bgb;go_wp2_with fail;refine (Hg.out w1).mono ?_;rintro e w2 ⟨rfl,hk2⟩;dsimp only;clear Hg pga pgb fga fgb lga lgb;replace Bga:=jH hk2 Bga;replace Bgb:=jH hk2 Bgb;replace Bgc:=jH hk2 Bgc;replace HkW:=jX (HkW.out.tz hk2);clear hk2;obtain⟨pga,fga,lga⟩:=jQ Bga;obtain⟨pgb,fgb,lgb⟩:=jQ Bgb;obtain⟨pgc,fgc,lgc⟩:=jQ Bgc;go_wp2_with fail;obtain⟨W2,gd,hW2,egd,bgd,hgd,hgW2,hkW2⟩:=al1 w2 (.cells #[.bool false,.string sg] 26);rw [← hW2];try rw [egd]
 have Bgd:=jX bgd;clear hW2 egd bgd;clear pga pgb pgc fga fgb fgc lga lgb lgc;replace Bga:=jH hkW2 Bga;replace Bgb:=jH hkW2 Bgb;replace Bgc:=jH hkW2 Bgc;replace HkW:=jX (HkW.out.tz hkW2);clear hkW2;have kga:=yaf Bga.out;have kgb:=yaf Bgb.out;have kgd:=yaf Bgd.out;have Q1:Hid (∀ m:KW W2,Calls prog 188 #[.agg #[.bool na,.string sa],.agg #[.bool false,.string sg]] (Wk W2 m) fun e w'=>e = .returned (.agg #[.bool nq,.string sq])∧∃ m,w'=Wk W2 m):=fun m=>qk m (Hq1.out _);have Q2:Hid (∀ m:KW W2,Calls prog 188 #[.agg #[.bool nb,.string sb],.agg #[.bool false,.string sg]] (Wk W2 m) fun e w'=>e = .returned (.agg #[.bool false,.string sd])∧∃ m,w'=Wk W2 m):=fun m=>qk m (Hq2.out _);clear Hq1 Hq2;refine yai 6 (by kernel_rfl) (by kernel_rfl) ?_;simp only [List.take_succ_cons,List.take_zero,List.drop_succ_cons,List.drop_zero]
 repeat (first
  | go_big_quiet_skip
  | (go_big_quiet_want;go_big_quiet_op;first|go_big_quiet_on|go_big_quiet_call (first
   | (go_at_call 188;with_reducible exact (Q1).out _)|(go_at_call 188;with_reducible exact (Q2).out _))))
 refine wpQuiet_nil ?_;rintro wz ⟨⟨_,hk_wz⟩,rfl⟩;clear kga kgb kgd Q1 Q2;replace Bga:=jH hk_wz Bga;replace Bgb:=jH hk_wz Bgb;replace Bgc:=jH hk_wz Bgc;replace Bgd:=jH hk_wz Bgd;replace HkW:=jX (HkW.out.tz hk_wz);clear hk_wz;obtain⟨pga,fga,lga⟩:=jQ Bga;obtain⟨pgb,fgb,lgb⟩:=jQ Bgb;go_wp2_with fail;clear pga pgb fga fgb lga lgb;obtain⟨W2,hW2,bga,hkW2⟩:=st2 (x:=.bool nq) (y:=.string sq) (Bga.out:(wz).heap[ga]? = _);rw [← hW2];clear Bga;have Bga:=jX bga;clear hW2 bga;have B2gb:=jX (hkW2.heap Bgb.out (by simp;omega));clear Bgb;have Bgb:=B2gb;clear B2gb;have B2gc:=jX (hkW2.heap Bgc.out (by simp;omega));clear Bgc;have Bgc:=B2gc;clear B2gc;have HkW2:=jX (HkW.out.trans hkW2 (by simp;omega));clear HkW hkW2;have HkW:=HkW2;clear HkW2;obtain⟨W3,rfl⟩:∃ x:World,x=W2:=⟨_,rfl⟩;obtain⟨W2,hW2,bgb,hkW2⟩:=st2 (x:=.bool false) (y:=.string sd) (Bgb.out:(W3).heap[gb]? = _);rw [← hW2];clear Bgb;have Bgb:=jX bgb;clear hW2 bgb;have B2ga:=jX (hkW2.heap Bga.out (by simp;omega));clear Bga;have Bga:=B2ga;clear B2ga;have B2gc:=jX (hkW2.heap Bgc.out (by simp;omega));clear Bgc;have Bgc:=B2gc;clear B2gc;have HkW2:=jX (HkW.out.trans hkW2 (by simp;omega));clear HkW hkW2;have HkW:=HkW2;clear HkW2;have kgb:=yaf Bgb.out;have Q1:Hid (∀ m:KW W2,Calls prog 152 #[] (Wk W2 m) fun e w'=>e = .returned (.agg #[.bool n1,.string s1])∧∃ m,w'=Wk W2 m):=fun m=>qk m (Hone.out _);clear Hone;refine yad (by kernel_rfl) (by kernel_rfl) ?_
 repeat (first
  | go_big_quiet_skip
  | (go_big_quiet_want;go_big_quiet_op;first|go_big_quiet_on|go_big_quiet_call (first
   | (go_at_call 152;with_reducible exact (Q1).out _))))
 refine wpQuiet_nil ?_;rintro w9 ⟨⟨_,hk_w9⟩,rfl⟩;clear kgb Q1 Bgd;replace Bga:=jH hk_w9 Bga;replace Bgb:=jH hk_w9 Bgb;replace Bgc:=jH hk_w9 Bgc;replace HkW:=jX (HkW.out.tz hk_w9);clear hk_w9;obtain⟨pga,fga,lga⟩:=jQ Bga;obtain⟨pgb,fgb,lgb⟩:=jQ Bgb;obtain⟨pgc,fgc,lgc⟩:=jQ Bgc;go_wp2_with fail;refine bodyPost_ret (v:=.agg #[.bool nq,.string sq,.bool false,.string sd]) ?_ rfl ⟨rfl,by repeat (first|(with_reducible exact HkW.out)|(refine Keep.sP ?_ _ _ _ (by omega))|(refine Keep.aP ?_ _)|(refine Keep.dP ?_))⟩;rw [yac rfl];go_simp
def FitQ (k:Nat) (q:Rat):Prop:=Fit k q.num∧Fit k (q.den:Int)
theorem FitQ.mono {k l:Nat} {q:Rat} (h:FitQ k q) (hl:k≤l):FitQ l q:=⟨h.1.mono hl,h.2.mono hl⟩
def crX (a b:Rat):Int:=if a.den=b.den then a.num else a.num*b.den
def crY (a b:Rat):Int:=if a.den=b.den then b.num else b.num*a.den
def crD (a b:Rat):Int:=if a.den=b.den then a.den else (a.den:Int)*b.den
theorem yhy (a b:Rat):0<crD a b:=by
 have h1:=a.den_pos;have h2:=b.den_pos;unfold crD;split
 ·omega
 exact Int.mul_pos (by omega) (by omega)
theorem crX_eq (a b:Rat):Rat.divInt (crX a b) (crD a b)=a:=by
 have h2:=b.den_pos;unfold crX crD;split
 ·exact Rat.num_divInt_den a
 rw [Rat.divInt_mul_right (by omega)];exact Rat.num_divInt_den a
theorem crY_eq (a b:Rat):Rat.divInt (crY a b) (crD a b)=b:=by
 have h2:=a.den_pos;unfold crY crD;split
 ·rename_i h;rw [h];exact Rat.num_divInt_den b
 rw [Int.mul_comm (a.den:Int),Rat.divInt_mul_right (by omega)];exact Rat.num_divInt_den b
theorem cr_add (a b:Rat):Rat.divInt (crX a b+crY a b) (crD a b)=a+b:=by
 have hp:=yhy a b
 have h:Rat.divInt (crX a b+crY a b) (crD a b)=Rat.divInt (crX a b) (crD a b)+Rat.divInt (crY a b) (crD a b):=by
  rw [Rat.divInt_eq_div,Rat.divInt_eq_div,Rat.divInt_eq_div,Rat.intCast_add,Rat.div_def,Rat.div_def,Rat.div_def,Rat.add_mul]
 rw [h,crX_eq,crY_eq]
theorem cr_cmp (a b:Rat):Lib.compareInt (crX a b) (crY a b)=Lib.compareInt (a.num*b.den) (b.num*a.den):=by
 have h1:=a.den_pos;unfold crX crY;split
 ·rename_i h
  rw [← h]
  have key:∀ x y:Int,x<y↔x*a.den<y*a.den:=fun x y=>by
   constructor
   ·intro hxy;exact Int.mul_lt_mul_of_pos_right hxy (by omega)
   intro hxy;exact Int.lt_of_mul_lt_mul_right hxy (by omega)
  unfold Lib.compareInt;simp only [gt_iff_lt,← key]
 rfl
theorem cr_fit {a b:Rat} {k l:Nat} (ha:FitQ k a) (hb:FitQ l b):Fit (k+l) (crX a b)∧Fit (k+l) (crY a b)∧Fit (k+l) (crD a b):=by
 unfold crX crY crD;split
 ·exact ⟨ha.1.mono (by omega),hb.1.mono (by omega),ha.2.mono (by omega)⟩
 exact ⟨ha.1.mul hb.2,(hb.1.mul ha.2).mono (by omega),ha.2.mul hb.2⟩
theorem ybl {a b:Int} {k:Nat} (ha:Fit k a) (hb:Fit k b) (h0:0<b):FitQ k (Rat.divInt a b):=by
 have hgp:0<Int.gcd a b:=Int.gcd_pos_of_ne_zero_right _ (by omega);refine ⟨ha.le ?_,hb.le ?_⟩
 ·rw [Rat.num_divInt,Int.sign_eq_one_of_pos h0,Int.one_mul]
  rw [Int.natAbs_ediv_of_dvd (by rw [Int.gcd_comm];exact Int.gcd_dvd_left a b)];exact Nat.div_le_self _ _
 rw [Rat.den_divInt,if_neg (by omega),Int.natAbs_natCast];exact Nat.div_le_self _ _
theorem FitQ.add {a b:Rat} {k l:Nat} (ha:FitQ k a) (hb:FitQ l b):FitQ (k+l+1) (a+b):=by
 obtain⟨h1,h2,h3⟩:=cr_fit ha hb;rw [← cr_add];exact ybl (h1.add h2) (h3.mono (by omega)) (yhy a b)
theorem FitQ.neg {a:Rat} {k:Nat} (ha:FitQ k a):FitQ k (-a):=by
 refine ⟨?_,?_⟩
 ·rw [Rat.neg_num];exact ha.1.neg
 rw [Rat.neg_den];exact ha.2
theorem mul_eq (a b:Rat):Rat.divInt (a.num*b.num) ((a.den:Int)*b.den)=a*b:=by
 rw [← Rat.divInt_mul_divInt,Rat.num_divInt_den,Rat.num_divInt_den]
theorem FitQ.mul {a b:Rat} {k l:Nat} (ha:FitQ k a) (hb:FitQ l b):FitQ (k+l) (a*b):=by
 rw [← mul_eq];exact ybl (ha.1.mul hb.1) (ha.2.mul hb.2) (Int.mul_pos (by have:=a.den_pos;omega) (by have:=b.den_pos;omega))
theorem FitQ.sub {a b:Rat} {k l:Nat} (ha:FitQ k a) (hb:FitQ l b):FitQ (k+l+1) (a-b):=by
 rw [Rat.sub_eq_add_neg];exact ha.add hb.neg
def qcmp (a b:Rat):Int:=Lib.compareInt (a.num*b.den) (b.num*a.den)
end Go.Proofs.YtpgffjjpiafhpaaGreatDoor
